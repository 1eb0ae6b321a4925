/- Plain law: two words of 64 bits, read as floats, stand to each other as their rungs with the sign do; a NaN stands to none. -/
import Derived.Laws.FloatArith
set_option autoImplicit false
namespace Go.Proofs.YtciolchdihlgfaaGreatDoor
namespace Flo
open Ieee

def V (r : Nat) : Nat :=
  if r < 4503599627370496 then r else (4503599627370496 + r % 4503599627370496) * 2 ^ (r / 4503599627370496 - 1)

def ng (a : Nat) : Bool := a / 9223372036854775808 % 2 == 1
def rg (a : Nat) : Nat := a % 9223372036854775808
def sg (s : Bool) (m : Nat) : Int := if s then -(m : Int) else (m : Int)
def sv (a : Nat) : Int := sg (ng a) (rg a)
abbrev inf : Nat := 9218868437227405312

theorem sw_eq : double.signWeight = 9223372036854775808 := by decide
theorem bn_eq : double.binade = 4503599627370496 := by decide
theorem if_eq : double.infRung = 9218868437227405312 := by decide
theorem lp_eq : double.leastPlace = -1074 := by decide

theorem read_eq (a : Nat) : double.read a =
    if rg a < 4503599627370496 then .number (ng a) (rg a) (-1074)
    else if rg a < inf then .number (ng a) (4503599627370496 + rg a % 4503599627370496) (-1074 + (rg a / 4503599627370496 - 1 : Nat))
    else if rg a = inf then .infinity (ng a) else .nan (ng a) (rg a - inf) := by
  unfold Format.read
  simp only [sw_eq, bn_eq, if_eq, lp_eq]
  rfl

theorem fin_eq (a : Nat) (h : rg a < inf) :
    ∃ (m e : Nat), double.read a = .number (ng a) m (-1074 + (e : Int)) ∧ m * 2 ^ e = V (rg a) := by
  rw [read_eq]
  unfold V
  by_cases h1 : rg a < 4503599627370496
  · refine ⟨rg a, 0, ?_, ?_⟩
    · rw [if_pos h1]; rfl
    · rw [if_pos h1]; omega
  · refine ⟨4503599627370496 + rg a % 4503599627370496, rg a / 4503599627370496 - 1, ?_, ?_⟩
    · rw [if_neg h1, if_pos h]
    · rw [if_neg h1]

theorem cmp_int {x y x' y' : Int} (h1 : x < y ↔ x' < y') (h2 : x = y ↔ x' = y') : compare x y = compare x' y' := by
  show compareOfLessAndEq x y = compareOfLessAndEq x' y'
  unfold compareOfLessAndEq
  by_cases a : x < y
  · rw [if_pos a, if_pos (h1.1 a)]
  · rw [if_neg a, if_neg (fun c => a (h1.2 c))]
    by_cases b : x = y
    · rw [if_pos b, if_pos (h2.1 b)]
    · rw [if_neg b, if_neg (fun c => b (h2.2 c))]

theorem signed_eq (s : Bool) (m k : Nat) : signed s m k = sg s (m * 2 ^ k) := by
  unfold signed sg; rw [Nat.shiftLeft_eq]

theorem sg_mul (s : Bool) (m c : Nat) : sg s (m * c) = sg s m * (c : Int) := by
  unfold sg; cases s
  · simp
  · simp [Int.neg_mul]

theorem ord_num (s t : Bool) (m n e f : Nat) :
    (Datum.number s m (-1074 + (e : Int))).order (.number t n (-1074 + (f : Int))) = some (compare (sg s (m * 2 ^ e)) (sg t (n * 2 ^ f))) := by
  unfold Datum.order
  simp only [signed_eq]
  have he : ((-1074 + (e : Int)) - min (-1074 + (e : Int)) (-1074 + (f : Int))).toNat = e - min e f := by omega
  have hf : ((-1074 + (f : Int)) - min (-1074 + (e : Int)) (-1074 + (f : Int))).toNat = f - min e f := by omega
  rw [he, hf]
  have e1 : m * 2 ^ e = m * 2 ^ (e - min e f) * 2 ^ min e f := by
    rw [Nat.mul_assoc, ← Nat.pow_add]; congr 2; omega
  have f1 : n * 2 ^ f = n * 2 ^ (f - min e f) * 2 ^ min e f := by
    rw [Nat.mul_assoc, ← Nat.pow_add]; congr 2; omega
  rw [e1, f1, sg_mul s (m * 2 ^ (e - min e f)) (2 ^ min e f), sg_mul t (n * 2 ^ (f - min e f)) (2 ^ min e f)]
  generalize sg s (m * 2 ^ (e - min e f)) = x
  generalize sg t (n * 2 ^ (f - min e f)) = y
  have hc : (0 : Int) < ((2 ^ min e f : Nat) : Int) := Int.natCast_pos.2 (Nat.two_pow_pos _)
  generalize ((2 ^ min e f : Nat) : Int) = c at hc
  refine congrArg some (cmp_int ?_ ?_)
  · exact ⟨fun h => Int.mul_lt_mul_of_pos_right h hc, fun h => Int.lt_of_mul_lt_mul_right h (Int.le_of_lt hc)⟩
  · exact ⟨fun h => by rw [h], fun h => Int.eq_of_mul_eq_mul_right (by omega) h⟩

theorem V_lt {r q : Nat} (h : r < q) : V r < V q := by
  unfold V
  by_cases hq : q < 4503599627370496
  · rw [if_pos hq, if_pos (by omega)]; exact h
  · rw [if_neg hq]
    have p1 : 0 < 2 ^ (q / 4503599627370496 - 1) := Nat.two_pow_pos _
    by_cases hr : r < 4503599627370496
    · rw [if_pos hr]
      have : 4503599627370496 * 1 ≤ (4503599627370496 + q % 4503599627370496) * 2 ^ (q / 4503599627370496 - 1) :=
        Nat.mul_le_mul (by omega) p1
      omega
    · rw [if_neg hr]
      by_cases hk : r / 4503599627370496 = q / 4503599627370496
      · rw [hk]
        exact Nat.mul_lt_mul_of_pos_right (by omega) p1
      · obtain ⟨d, hd⟩ : ∃ d, q / 4503599627370496 - 1 = (r / 4503599627370496 - 1) + 1 + d :=
          ⟨q / 4503599627370496 - 1 - (r / 4503599627370496 - 1) - 1, by omega⟩
        rw [hd, Nat.pow_add, Nat.pow_succ]
        have p2 : 0 < 2 ^ (r / 4503599627370496 - 1) := Nat.two_pow_pos _
        generalize 2 ^ (r / 4503599627370496 - 1) = x at p2
        have p3 : 0 < 2 ^ d := Nat.two_pow_pos _
        generalize 2 ^ d = y at p3
        have hm : r % 4503599627370496 < 4503599627370496 := Nat.mod_lt _ (by omega)
        generalize r % 4503599627370496 = u at hm
        generalize q % 4503599627370496 = v
        have s1 : (4503599627370496 + u) * x < (2 * 4503599627370496) * x := Nat.mul_lt_mul_of_pos_right (by omega) p2
        have s2 : 4503599627370496 * (x * 2 * 1) ≤ (4503599627370496 + v) * (x * 2 * y) :=
          Nat.mul_le_mul (by omega) (Nat.mul_le_mul (Nat.le_refl _) p3)
        omega

theorem V_zero : V 0 = 0 := by decide

theorem V_lt_iff {r q : Nat} : V r < V q ↔ r < q :=
  ⟨fun h => by
    rcases Nat.lt_trichotomy r q with c | c | c
    · exact c
    · subst c; omega
    · have := V_lt c; omega, V_lt⟩

theorem V_eq_iff {r q : Nat} : V r = V q ↔ r = q :=
  ⟨fun h => by
    rcases Nat.lt_trichotomy r q with c | c | c
    · have := V_lt c; omega
    · exact c
    · have := V_lt c; omega, fun h => by rw [h]⟩

theorem sg_V (s t : Bool) (r q : Nat) : compare (sg s (V r)) (sg t (V q)) = compare (sg s r) (sg t q) := by
  have a1 := @V_lt_iff r q
  have a2 := @V_lt_iff q r
  have a3 := @V_eq_iff r q
  have b1 := @V_eq_iff r 0
  have b2 := @V_eq_iff q 0
  rw [V_zero] at b1 b2
  generalize V r = x at *
  generalize V q = y at *
  refine cmp_int ?_ ?_ <;> unfold sg <;> cases s <;> cases t <;> simp <;> omega

theorem rg_lt (a : Nat) : rg a < 9223372036854775808 := Nat.mod_lt _ (by omega)

theorem order_eq {a b : Nat} (ha : rg a ≤ inf) (hb : rg b ≤ inf) : double.order a b = some (compare (sv a) (sv b)) := by
  unfold Format.order sv
  by_cases h1 : rg a < inf
  · obtain ⟨m, e, hr, hm⟩ := fin_eq a h1
    by_cases h2 : rg b < inf
    · obtain ⟨n, f, hs, hn⟩ := fin_eq b h2
      rw [hr, hs, ord_num, hm, hn, sg_V]
    · have h3 : rg b = inf := by omega
      rw [hr, read_eq b, if_neg (by unfold inf at h3; omega), if_neg h2, if_pos h3, h3]
      unfold Datum.order
      simp only []
      generalize rg a = r at h1
      unfold inf at h1
      refine congrArg some (Eq.symm ?_)
      show compareOfLessAndEq _ _ = _
      unfold compareOfLessAndEq sg inf
      cases ng a <;> cases ng b <;> simp only [if_true, if_false, Bool.false_eq_true] <;> (repeat' split) <;> first | rfl | omega
  · have h3 : rg a = inf := by omega
    rw [read_eq a, if_neg (by unfold inf at h3; omega), if_neg h1, if_pos h3, h3]
    by_cases h2 : rg b < inf
    · obtain ⟨n, f, hs, hn⟩ := fin_eq b h2
      rw [hs]
      unfold Datum.order
      simp only []
      generalize rg b = r at h2
      unfold inf at h2
      refine congrArg some (Eq.symm ?_)
      show compareOfLessAndEq _ _ = _
      unfold compareOfLessAndEq sg inf
      cases ng a <;> cases ng b <;> simp only [if_true, if_false, Bool.false_eq_true] <;> (repeat' split) <;> first | rfl | omega
    · have h4 : rg b = inf := by omega
      rw [read_eq b, if_neg (by unfold inf at h4; omega), if_neg h2, if_pos h4, h4]
      unfold Datum.order
      cases ng a <;> cases ng b <;> decide

theorem order_nan {a b : Nat} (h : inf < rg a ∨ inf < rg b) : double.order a b = none := by
  unfold Format.order
  have hn : ∀ x, inf < rg x → ∃ s f, double.read x = .nan s f := by
    intro x hx
    refine ⟨ng x, rg x - inf, ?_⟩
    rw [read_eq, if_neg (by unfold inf at hx; omega), if_neg (by omega), if_neg (by omega)]
  rcases h with h | h
  · obtain ⟨s, f, e⟩ := hn _ h
    rw [e]; cases double.read b <;> rfl
  · obtain ⟨s, f, e⟩ := hn _ h
    rw [e]; cases double.read a <;> rfl

/-- Is it no number? -/
def nan (a : Nat) : Bool := decide (inf < rg a)

theorem self_ne (a : Nat) : (double.order a a != some .eq) = nan a := by
  unfold nan
  by_cases h : inf < rg a
  · rw [order_nan (Or.inl h)]; simp [h]
  · rw [order_eq (by omega) (by omega)]
    have : compare (sv a) (sv a) = .eq := by show compareOfLessAndEq _ _ = _; unfold compareOfLessAndEq; rw [if_neg (by omega), if_pos rfl]
    rw [this]; simp [h]

theorem self_eq (a : Nat) : (double.order a a == some .eq) = !nan a := by
  have h := self_ne a; rw [bne] at h; cases h2 : (double.order a a == some .eq) <;> rw [h2] at h <;> rw [← h] <;> rfl

/-- The three tests on two words. -/
theorem lss_eq (a b : Nat) : (double.order a b == some .lt) = (!nan a && !nan b && decide (sv a < sv b)) := by
  unfold nan
  by_cases h : inf < rg a ∨ inf < rg b
  · rw [order_nan h]; rcases h with h | h <;> simp [h]
  · have h1 : ¬ inf < rg a := fun c => h (Or.inl c)
    have h2 : ¬ inf < rg b := fun c => h (Or.inr c)
    rw [order_eq (by omega) (by omega)]
    show (some (compareOfLessAndEq _ _) == _) = _
    unfold compareOfLessAndEq
    rw [decide_eq_false h1, decide_eq_false h2]
    by_cases c : sv a < sv b
    · rw [if_pos c]; simp [c]
    · rw [if_neg c]; by_cases d : sv a = sv b
      · rw [if_pos d]; simp [c]
      · rw [if_neg d]; simp [c]

theorem gtr_eq (a b : Nat) : (double.order a b == some .gt) = (!nan a && !nan b && decide (sv b < sv a)) := by
  unfold nan
  by_cases h : inf < rg a ∨ inf < rg b
  · rw [order_nan h]; rcases h with h | h <;> simp [h]
  · have h1 : ¬ inf < rg a := fun c => h (Or.inl c)
    have h2 : ¬ inf < rg b := fun c => h (Or.inr c)
    rw [order_eq (by omega) (by omega)]
    show (some (compareOfLessAndEq _ _) == _) = _
    unfold compareOfLessAndEq
    rw [decide_eq_false h1, decide_eq_false h2]
    by_cases c : sv a < sv b
    · have c' : ¬ sv b < sv a := by omega
      rw [if_pos c]; simp [c']
    · rw [if_neg c]; by_cases d : sv a = sv b
      · have c' : ¬ sv b < sv a := by omega
        rw [if_pos d]; simp [c']
      · have c' : sv b < sv a := by omega
        rw [if_neg d]; simp [c']

theorem eql_eq (a b : Nat) : (double.order a b == some .eq) = (!nan a && !nan b && decide (sv a = sv b)) := by
  unfold nan
  by_cases h : inf < rg a ∨ inf < rg b
  · rw [order_nan h]; rcases h with h | h <;> simp [h]
  · have h1 : ¬ inf < rg a := fun c => h (Or.inl c)
    have h2 : ¬ inf < rg b := fun c => h (Or.inr c)
    rw [order_eq (by omega) (by omega)]
    show (some (compareOfLessAndEq _ _) == _) = _
    unfold compareOfLessAndEq
    rw [decide_eq_false h1, decide_eq_false h2]
    by_cases c : sv a < sv b
    · have c' : ¬ sv a = sv b := by omega
      rw [if_pos c]; simp [c']
    · rw [if_neg c]; by_cases d : sv a = sv b
      · rw [if_pos d]; simp [d]
      · rw [if_neg d]; simp [d]

end Flo
end Go.Proofs.YtciolchdihlgfaaGreatDoor
