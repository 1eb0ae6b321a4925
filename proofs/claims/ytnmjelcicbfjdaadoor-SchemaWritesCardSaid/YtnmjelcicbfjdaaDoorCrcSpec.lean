import Derived.Laws.BitsAllLaws
import Derived.Test.YtnmjelcicbfjdaaDoorWireSpec2
namespace Go.Proofs.YtnmjelcicbfjdaaDoor.Crc
open Go.RowKit Go.Proofs.YtnmjelcicbfjdaaDoor.Wire
set_option linter.unusedVariables false
set_option linter.unusedSimpArgs false

def one (s : Nat) : Nat := if s % 2 = 1 then (s / 2) ^^^ 2197175160 else s / 2
def iter : Nat → Nat → Nat
  | 0, s => s
  | k + 1, s => one (iter k s)
def st (s c : Nat) : Nat := iter 8 (s ^^^ c)
def fold : Nat → List Int → Nat
  | s, [] => s
  | s, c :: t => fold (st s c.toNat) t
theorem x32 {a b : Nat} (h : a < 4294967296) (k : b < 4294967296) : a ^^^ b < 4294967296 := Nat.xor_lt_two_pow (n := 32) (by omega) (by omega)
theorem one_lt {s : Nat} (h : s < 4294967296) : one s < 4294967296 := by
  unfold one
  split
  · exact x32 (by omega) (by omega)
  · omega
theorem iter_lt {s : Nat} (h : s < 4294967296) (k : Nat) : iter k s < 4294967296 := by
  induction k with
  | zero => exact h
  | succ k ih => exact one_lt ih
theorem st_lt {s c : Nat} (hs : s < 4294967296) (hc : c < 256) : st s c < 4294967296 := iter_lt (x32 hs (by omega)) 8
theorem fold_lt : ∀ (l : List Int) (s : Nat), Bytes l → s < 4294967296 → fold s l < 4294967296
  | [], s, _, h => h
  | c :: t, s, hb, h => fold_lt t _ (fun d hd => hb d (List.mem_cons_of_mem _ hd)) (st_lt h (by have := hb c (List.mem_cons_self ..); omega))
theorem fold_append (a b : List Int) : ∀ s, fold s (a ++ b) = fold (fold s a) b := by
  induction a with
  | nil => intro s; rfl
  | cons c t ih => intro s; exact ih _
theorem iter_add (a b s : Nat) : iter (a + b) s = iter a (iter b s) := by
  induction a with
  | zero => simp [iter]
  | succ a ih => rw [Nat.add_right_comm]; simp only [iter, ih]

/-! ### Linear -/
theorem xor_mod (a b : Nat) : (a ^^^ b) % 2 = (a % 2 + b % 2) % 2 := by
  have h := Nat.xor_mod_two_pow (a := a) (b := b) (n := 1)
  rw [Nat.pow_one] at h
  rw [h]
  rcases Nat.mod_two_eq_zero_or_one a with ha | ha <;> rcases Nat.mod_two_eq_zero_or_one b with hb | hb <;> rw [ha, hb] <;> rfl
theorem xor_eq_zero {a b : Nat} (h : a ^^^ b = 0) : a = b := by
  have h2 : (a ^^^ b) ^^^ b = b := by rw [h, Nat.zero_xor]
  rwa [Nat.xor_assoc, Nat.xor_self, Nat.xor_zero] at h2
theorem one_xor (a b : Nat) : one (a ^^^ b) = one a ^^^ one b := by
  have hm : (a ^^^ b) % 2 = (a % 2 + b % 2) % 2 := xor_mod a b
  have hd : (a ^^^ b) / 2 = (a / 2) ^^^ (b / 2) := Nat.xor_div_two
  unfold one
  rw [hm, hd]
  rcases Nat.mod_two_eq_zero_or_one a with ha | ha <;> rcases Nat.mod_two_eq_zero_or_one b with hb | hb <;> rw [ha, hb] <;> simp
  · rw [Nat.xor_assoc]
  · rw [Nat.xor_assoc, Nat.xor_assoc, Nat.xor_comm (b / 2)]
  · rw [Nat.xor_assoc, ← Nat.xor_assoc 2197175160, Nat.xor_comm 2197175160 (b / 2), Nat.xor_assoc, Nat.xor_self, Nat.xor_zero]
theorem one_zero : one 0 = 0 := by decide
theorem iter_xor (k a b : Nat) : iter k (a ^^^ b) = iter k a ^^^ iter k b := by
  induction k with
  | zero => rfl
  | succ k ih => simp only [iter, ih, one_xor]
theorem iter_zero (k : Nat) : iter k 0 = 0 := by
  induction k with
  | zero => rfl
  | succ k ih => simp only [iter, ih, one_zero]
theorem one_ne {s : Nat} (h : s < 4294967296) (h0 : one s = 0) : s = 0 := by
  unfold one at h0
  split at h0
  · have e : s / 2 = 2197175160 := xor_eq_zero h0
    omega
  · omega
theorem iter_ne {s : Nat} (h : s < 4294967296) (k : Nat) (h0 : iter k s = 0) : s = 0 := by
  induction k with
  | zero => exact h0
  | succ k ih => exact ih (one_ne (iter_lt h k) h0)
theorem iter_inj {a b : Nat} (ha : a < 4294967296) (hb : b < 4294967296) (k : Nat) (h : iter k a = iter k b) : a = b := by
  apply xor_eq_zero
  apply iter_ne (x32 ha hb) k
  rw [iter_xor, h, Nat.xor_self]
theorem st_xor (a d c : Nat) : st (a ^^^ d) c = st a c ^^^ iter 8 d := by
  unfold st
  rw [← iter_xor]
  congr 1
  rw [Nat.xor_assoc, Nat.xor_comm d c, ← Nat.xor_assoc]
theorem fold_xor (l : List Int) : ∀ a d, fold (a ^^^ d) l = fold a l ^^^ iter (8 * l.length) d := by
  induction l with
  | nil => intro a d; rfl
  | cons c t ih =>
    intro a d
    rw [List.length_cons, show 8 * (t.length + 1) = 8 * t.length + 8 by omega, iter_add]
    show fold (st (a ^^^ d) c.toNat) t = fold (st a c.toNat) t ^^^ _
    rw [st_xor, ih]
/-- A power of 2 goes down. -/
theorem iter_pow (j : Nat) : ∀ k, j ≤ k → iter k (2 ^ j) = iter (k - j) 1 := by
  induction j with
  | zero => intro k _; rfl
  | succ j ih =>
    intro k hk
    obtain ⟨k, rfl⟩ : ∃ m, k = m + 1 := ⟨k - 1, by omega⟩
    have e : one (2 ^ (j + 1)) = 2 ^ j := by
      unfold one
      rw [Nat.pow_succ, if_neg (by omega)]
      omega
    rw [iter_add k 1, show iter 1 (2 ^ (j + 1)) = one (2 ^ (j + 1)) from rfl, e, ih k (by omega), Nat.add_sub_add_right]
/-- What goes down within low bits that are none. -/
theorem iter_shift (j : Nat) : ∀ x, iter j (x * 2 ^ j) = x := by
  induction j with
  | zero => intro x; simp [iter]
  | succ j ih =>
    intro x
    have e : one (x * 2 ^ (j + 1)) = x * 2 ^ j := by
      unfold one
      rw [Nat.pow_succ, ← Nat.mul_assoc, if_neg (by omega)]
      omega
    rw [iter_add j 1, show iter 1 (x * 2 ^ (j + 1)) = one (x * 2 ^ (j + 1)) from rfl, e, ih]

/-! ### How many bits are set, odd or even -/
def par (n : Nat) : Nat := if n = 0 then 0 else (n % 2 + par (n / 2)) % 2
termination_by n
decreasing_by omega
theorem par_zero : par 0 = 0 := by rw [par]; rfl
theorem par_eq (n : Nat) : par n = (n % 2 + par (n / 2)) % 2 := by
  by_cases h : n = 0
  · subst h
    simp [par_zero]
  · rw [par, if_neg h]
theorem par_lt (n : Nat) : par n < 2 := by
  rw [par_eq]
  omega
theorem par_xor (a : Nat) : ∀ b, par (a ^^^ b) = (par a + par b) % 2 := by
  induction a using Nat.strongRecOn with
  | ind a ih =>
    intro b
    by_cases h : a = 0
    · subst h
      rw [Nat.zero_xor, par_zero]
      have := par_lt b
      omega
    · have hm : (a ^^^ b) % 2 = (a % 2 + b % 2) % 2 := xor_mod a b
      have hd : (a ^^^ b) / 2 = (a / 2) ^^^ (b / 2) := Nat.xor_div_two
      rw [par_eq (a ^^^ b), hm, hd, ih (a / 2) (by omega), par_eq a, par_eq b]
      omega
theorem par_poly : par 2197175160 = 1 := by decide +kernel
theorem par_one (s : Nat) : par (one s) = par s := by
  unfold one
  have h := par_eq s
  have hl := par_lt (s / 2)
  split
  · rw [par_xor, par_poly]
    omega
  · omega
theorem par_iter (k s : Nat) : par (iter k s) = par s := by
  induction k with
  | zero => rfl
  | succ k ih => rw [iter, par_one, ih]
theorem par_1 : par 1 = 1 := by decide +kernel

/-! ### The sum -/
def F (l : List Int) : Nat := fold 4294967295 l
def sum (l : List Int) : Nat := 4294967295 - F l
theorem F_lt {l : List Int} (h : Bytes l) : F l < 4294967296 := fold_lt l _ h (by decide)
theorem not_is {s : Nat} (h : s < 4294967296) : 4294967295 ^^^ s = 4294967295 - s := by
  have e := congrArg BitVec.toNat (BitVec.allOnes_xor (x := BitVec.ofNat 32 s))
  rw [BitVec.toNat_xor, BitVec.toNat_not, BitVec.toNat_ofNat, BitVec.toNat_allOnes, Nat.mod_eq_of_lt (by omega)] at e
  have e2 : (2 ^ 32 - 1 : Nat) = 4294967295 := by decide
  rw [e2] at e
  omega
/-- A number's four bytes, the lowest one first. -/
def put (x : Nat) : List Int := [((x % 256 : Nat) : Int), ((x / 256 % 256 : Nat) : Int), ((x / 65536 % 256 : Nat) : Int), ((x / 16777216 % 256 : Nat) : Int)]
theorem put_len (x : Nat) : (put x).length = 4 := rfl
theorem put_bytes (x : Nat) : Bytes (put x) := by
  intro c hc
  simp only [put, List.mem_cons, List.not_mem_nil, or_false] at hc
  rcases hc with rfl | rfl | rfl | rfl <;> omega
theorem put_inj {x y : Nat} (hx : x < 4294967296) (hy : y < 4294967296) (h : put x = put y) : x = y := by
  simp only [put, List.cons.injEq, and_true] at h
  omega
/-- One byte goes in as a part of a number. -/
theorem iter8 (s x : Nat) : iter 8 (s ^^^ x) = st s (x % 256) ^^^ (x / 256) := by
  have e : x = (x % 256) ^^^ (x / 256 * 2 ^ 8) := by
    have := Nat.two_pow_add_eq_or_of_lt (i := 8) (b := x % 256) (by omega) (x / 256)
    have h2 : 2 ^ 8 * (x / 256) + x % 256 = x := by omega
    rw [h2] at this
    rw [Nat.xor_comm]
    apply Nat.eq_of_testBit_eq
    intro i
    rw [Nat.testBit_xor]
    by_cases hi : i < 8
    · rw [Nat.testBit_mul_two_pow]
      rw [show x % 256 = x % 2 ^ 8 from rfl, Nat.testBit_mod_two_pow]
      simp [hi, show ¬ 8 ≤ i by omega]
    · rw [Nat.testBit_mul_two_pow, show x % 256 = x % 2 ^ 8 from rfl, Nat.testBit_mod_two_pow, show x / 256 = x / 2 ^ 8 from rfl, Nat.testBit_div_two_pow]
      simp [hi, show 8 ≤ i by omega, show i - 8 + 8 = i by omega]
  have : iter 8 (s ^^^ x) = iter 8 ((s ^^^ (x % 256)) ^^^ (x / 256 * 2 ^ 8)) := by rw [Nat.xor_assoc, ← e]
  rw [this, iter_xor, iter_shift]
  rfl
theorem fold_four (s a b c d : Nat) : fold s [(a : Int), (b : Int), (c : Int), (d : Int)] = st (st (st (st s a) b) c) d := rfl
theorem iter32 (y : Nat) : iter 32 y = iter 8 (iter 8 (iter 8 (iter 8 y))) := by
  rw [← iter_add, ← iter_add, ← iter_add]
theorem fold_put (s x : Nat) (hx : x < 4294967296) : fold s (put x) = iter 32 (s ^^^ x) := by
  have h1 := iter8 s x
  have h2 := iter8 (st s (x % 256)) (x / 256)
  have h3 := iter8 (st (st s (x % 256)) (x / 256 % 256)) (x / 65536)
  have h4 := iter8 (st (st (st s (x % 256)) (x / 256 % 256)) (x / 65536 % 256)) (x / 16777216)
  rw [show x / 256 / 256 = x / 65536 by omega] at h2
  rw [show x / 65536 / 256 = x / 16777216 by omega] at h3
  rw [show x / 16777216 / 256 = 0 by omega, Nat.xor_zero] at h4
  rw [iter32, h1, h2, h3, h4]
  exact fold_four s _ _ _ _
/-- What is opened. -/
def opened (l : List Int) : Prop := 4 ≤ l.length ∧ l.drop (l.length - 4) = put (sum (l.take (l.length - 4)))
instance (l : List Int) : Decidable (opened l) := inferInstanceAs (Decidable (_ ∧ _))
def K : Nat := iter 32 4294967295
theorem sum_lt (l : List Int) : sum l < 4294967296 := by unfold sum; omega
theorem F_opened {l : List Int} (hb : Bytes l) (h : opened l) : F l = K := by
  obtain ⟨h4, h⟩ := h
  have e : l = l.take (l.length - 4) ++ put (sum (l.take (l.length - 4))) := by rw [← h, List.take_append_drop]
  have hF := F_lt (hb.take (l.length - 4))
  rw [e]
  unfold F K
  rw [fold_append, fold_put _ _ (sum_lt _)]
  congr 1
  show F _ ^^^ sum _ = _
  unfold sum
  rw [← not_is hF, Nat.xor_comm, Nat.xor_assoc, Nat.xor_self, Nat.xor_zero]
def sealed (l : List Int) : List Int := l ++ put (sum l)
theorem seal_opened (l : List Int) : opened (sealed l) := by
  unfold opened sealed
  rw [List.length_append, put_len, Nat.add_sub_cancel]
  refine ⟨by omega, ?_⟩
  simp
theorem seal_bytes {l : List Int} (h : Bytes l) : Bytes (sealed l) := h.app (put_bytes _)
theorem seal_len (l : List Int) : (sealed l).length = l.length + 4 := by simp [sealed, put_len]

/-! ### A bit is turned -/
theorem st_xor2 (a c d : Nat) : st a (c ^^^ d) = st a c ^^^ iter 8 d := by
  unfold st
  rw [← Nat.xor_assoc, iter_xor]
theorem fold_mid (p q : List Int) (c : Int) (d s : Nat) : fold s (p ++ (((c.toNat ^^^ d : Nat) : Int) :: q)) = fold s (p ++ (c :: q)) ^^^ iter (8 * q.length + 8) d := by
  rw [fold_append, fold_append]
  show fold (st (fold s p) (c.toNat ^^^ d)) q = fold (st (fold s p) c.toNat) q ^^^ _
  rw [st_xor2, fold_xor, ← iter_add]
section
attribute [local irreducible] iter
def flip (l : List Int) (i : Nat) : List Int := l.set (i / 8) ((((l.getD (i / 8) 0).toNat ^^^ 2 ^ (i % 8) : Nat) : Int))
theorem flip_len (l : List Int) (i : Nat) : (flip l i).length = l.length := by simp [flip]
theorem flip_bytes {l : List Int} (h : Bytes l) (i : Nat) : Bytes (flip l i) := by
  intro c hc
  rcases List.mem_or_eq_of_mem_set hc with hc | rfl
  · exact h c hc
  · have := h.rd_ (i / 8)
    have hp : 2 ^ (i % 8) < 2 ^ 8 := Nat.pow_lt_pow_right (by decide) (by omega)
    have hg : (l.getD (i / 8) 0).toNat < 2 ^ 8 := by
      have h2 := this.2
      unfold Go.Proofs.YtnmjelcicbfjdaaDoorW.PrintWords.rd at h2
      rw [Int.toNat_natCast] at h2
      omega
    have := Nat.xor_lt_two_pow hg hp
    omega
theorem fold_flip (l : List Int) (i : Nat) (hi : i < 8 * l.length) (s : Nat) : fold s (flip l i) = fold s l ^^^ iter (8 * l.length - i) 1 := by
  have hlt : i / 8 < l.length := by omega
  have e1 : l.take (i / 8) ++ (l[i / 8] :: l.drop (i / 8 + 1)) = l := by rw [← List.drop_eq_getElem_cons hlt, List.take_append_drop]
  have eg : l.getD (i / 8) 0 = l[i / 8] := by rw [List.getD_eq_getElem?_getD, List.getElem?_eq_getElem hlt]; rfl
  have e2 : flip l i = l.take (i / 8) ++ ((((l[i / 8]).toNat ^^^ 2 ^ (i % 8) : Nat) : Int) :: l.drop (i / 8 + 1)) := by
    unfold flip
    rw [eg, List.set_eq_take_append_cons_drop, if_pos hlt]
  have e3 := fold_mid (l.take (i / 8)) (l.drop (i / 8 + 1)) l[i / 8] (2 ^ (i % 8)) s
  rw [e1, ← e2] at e3
  rw [e3, iter_pow _ _ (by omega), List.length_drop]
  have e4 : 8 * (l.length - (i / 8 + 1)) + 8 - i % 8 = 8 * l.length - i := by omega
  rw [e4]
theorem F_flip (l : List Int) (i : Nat) (hi : i < 8 * l.length) : F (flip l i) = F l ^^^ iter (8 * l.length - i) 1 := fold_flip l i hi _

end
/-! ### No two bits far from each other come to the same -/
def far : Nat → Nat → Option Nat
  | 0, s => some s
  | n + 1, s => if one s = 1 then none else far n (one s)
theorem far_iter : ∀ n s r, far n s = some r → iter n s = r ∧ ∀ d, 0 < d → d ≤ n → iter d s ≠ 1
  | 0, s, r, h => ⟨Option.some.inj h, fun d h0 h1 => by omega⟩
  | n + 1, s, r, h => by
    simp only [far] at h
    split at h
    · cases h
    · rename_i h1
      obtain ⟨e, k⟩ := far_iter n (one s) r h
      refine ⟨by rw [iter_add n 1]; exact e, fun d h0 hd => ?_⟩
      by_cases hd1 : d = 1
      · subst hd1
        exact h1
      · obtain ⟨d, rfl⟩ : ∃ m, d = m + 1 := ⟨d - 1, by omega⟩
        rw [iter_add d 1]
        exact k d (by omega) (by omega)
theorem far_join {a b s r q n : Nat} (hn : n = a + b) (h : iter a s = r ∧ ∀ d, 0 < d → d ≤ a → iter d s ≠ 1) (k : far b r = some q) : iter n s = q ∧ ∀ d, 0 < d → d ≤ n → iter d s ≠ 1 := by
  subst hn
  obtain ⟨h1, h2⟩ := h
  obtain ⟨k1, k2⟩ := far_iter b r q k
  refine ⟨by rw [Nat.add_comm, iter_add, h1, k1], fun d h0 hd => ?_⟩
  by_cases hd1 : d ≤ a
  · exact h2 d h0 hd1
  · obtain ⟨e, rfl⟩ : ∃ e, d = e + a := ⟨d - a, by omega⟩
    rw [iter_add, h1]
    exact k2 e (by omega) (by omega)
theorem far_0 : iter 0 1 = 1 ∧ ∀ d, 0 < d → d ≤ 0 → iter d 1 ≠ 1 := ⟨rfl, fun d a b => by omega⟩
theorem far_c600_1 : far 600 1 = some 1988048428 := by decide +kernel
theorem far_1 : iter 600 1 = 1988048428 ∧ ∀ d, 0 < d → d ≤ 600 → iter d 1 ≠ 1 := far_join (by decide) far_0 (far_c600_1)
theorem far_c600_1988048428 : far 600 1988048428 = some 67575871 := by decide +kernel
theorem far_2 : iter 1200 1 = 67575871 ∧ ∀ d, 0 < d → d ≤ 1200 → iter d 1 ≠ 1 := far_join (by decide) far_1 (far_c600_1988048428)
theorem far_c600_67575871 : far 600 67575871 = some 685980792 := by decide +kernel
theorem far_3 : iter 1800 1 = 685980792 ∧ ∀ d, 0 < d → d ≤ 1800 → iter d 1 ≠ 1 := far_join (by decide) far_2 (far_c600_67575871)
theorem far_c600_685980792 : far 600 685980792 = some 3519685495 := by decide +kernel
theorem far_4 : iter 2400 1 = 3519685495 ∧ ∀ d, 0 < d → d ≤ 2400 → iter d 1 ≠ 1 := far_join (by decide) far_3 (far_c600_685980792)
theorem far_c600_3519685495 : far 600 3519685495 = some 2801565473 := by decide +kernel
theorem far_5 : iter 3000 1 = 2801565473 ∧ ∀ d, 0 < d → d ≤ 3000 → iter d 1 ≠ 1 := far_join (by decide) far_4 (far_c600_3519685495)
theorem far_c600_2801565473 : far 600 2801565473 = some 4059740330 := by decide +kernel
theorem far_6 : iter 3600 1 = 4059740330 ∧ ∀ d, 0 < d → d ≤ 3600 → iter d 1 ≠ 1 := far_join (by decide) far_5 (far_c600_2801565473)
theorem far_c600_4059740330 : far 600 4059740330 = some 2743294818 := by decide +kernel
theorem far_7 : iter 4200 1 = 2743294818 ∧ ∀ d, 0 < d → d ≤ 4200 → iter d 1 ≠ 1 := far_join (by decide) far_6 (far_c600_4059740330)
theorem far_c600_2743294818 : far 600 2743294818 = some 2477127472 := by decide +kernel
theorem far_8 : iter 4800 1 = 2477127472 ∧ ∀ d, 0 < d → d ≤ 4800 → iter d 1 ≠ 1 := far_join (by decide) far_7 (far_c600_2743294818)
theorem far_c600_2477127472 : far 600 2477127472 = some 1223704076 := by decide +kernel
theorem far_9 : iter 5400 1 = 1223704076 ∧ ∀ d, 0 < d → d ≤ 5400 → iter d 1 ≠ 1 := far_join (by decide) far_8 (far_c600_2477127472)
theorem far_c600_1223704076 : far 600 1223704076 = some 1420103753 := by decide +kernel
theorem far_10 : iter 6000 1 = 1420103753 ∧ ∀ d, 0 < d → d ≤ 6000 → iter d 1 ≠ 1 := far_join (by decide) far_9 (far_c600_1223704076)
theorem far_c600_1420103753 : far 600 1420103753 = some 1808064158 := by decide +kernel
theorem far_11 : iter 6600 1 = 1808064158 ∧ ∀ d, 0 < d → d ≤ 6600 → iter d 1 ≠ 1 := far_join (by decide) far_10 (far_c600_1420103753)
theorem far_c600_1808064158 : far 600 1808064158 = some 797767765 := by decide +kernel
theorem far_12 : iter 7200 1 = 797767765 ∧ ∀ d, 0 < d → d ≤ 7200 → iter d 1 ≠ 1 := far_join (by decide) far_11 (far_c600_1808064158)
theorem far_c600_797767765 : far 600 797767765 = some 801517373 := by decide +kernel
theorem far_13 : iter 7800 1 = 801517373 ∧ ∀ d, 0 < d → d ≤ 7800 → iter d 1 ≠ 1 := far_join (by decide) far_12 (far_c600_797767765)
theorem far_c600_801517373 : far 600 801517373 = some 1600271727 := by decide +kernel
theorem far_14 : iter 8400 1 = 1600271727 ∧ ∀ d, 0 < d → d ≤ 8400 → iter d 1 ≠ 1 := far_join (by decide) far_13 (far_c600_801517373)
theorem far_c600_1600271727 : far 600 1600271727 = some 193810867 := by decide +kernel
theorem far_15 : iter 9000 1 = 193810867 ∧ ∀ d, 0 < d → d ≤ 9000 → iter d 1 ≠ 1 := far_join (by decide) far_14 (far_c600_1600271727)
theorem far_c600_193810867 : far 600 193810867 = some 4001502135 := by decide +kernel
theorem far_16 : iter 9600 1 = 4001502135 ∧ ∀ d, 0 < d → d ≤ 9600 → iter d 1 ≠ 1 := far_join (by decide) far_15 (far_c600_193810867)
theorem far_c600_4001502135 : far 600 4001502135 = some 587082976 := by decide +kernel
theorem far_17 : iter 10200 1 = 587082976 ∧ ∀ d, 0 < d → d ≤ 10200 → iter d 1 ≠ 1 := far_join (by decide) far_16 (far_c600_4001502135)
theorem far_c600_587082976 : far 600 587082976 = some 823757175 := by decide +kernel
theorem far_18 : iter 10800 1 = 823757175 ∧ ∀ d, 0 < d → d ≤ 10800 → iter d 1 ≠ 1 := far_join (by decide) far_17 (far_c600_587082976)
theorem far_c600_823757175 : far 600 823757175 = some 471302686 := by decide +kernel
theorem far_19 : iter 11400 1 = 471302686 ∧ ∀ d, 0 < d → d ≤ 11400 → iter d 1 ≠ 1 := far_join (by decide) far_18 (far_c600_823757175)
theorem far_c600_471302686 : far 600 471302686 = some 206893133 := by decide +kernel
theorem far_20 : iter 12000 1 = 206893133 ∧ ∀ d, 0 < d → d ≤ 12000 → iter d 1 ≠ 1 := far_join (by decide) far_19 (far_c600_471302686)
theorem far_c600_206893133 : far 600 206893133 = some 716170907 := by decide +kernel
theorem far_21 : iter 12600 1 = 716170907 ∧ ∀ d, 0 < d → d ≤ 12600 → iter d 1 ≠ 1 := far_join (by decide) far_20 (far_c600_206893133)
theorem far_c600_716170907 : far 600 716170907 = some 1533459679 := by decide +kernel
theorem far_22 : iter 13200 1 = 1533459679 ∧ ∀ d, 0 < d → d ≤ 13200 → iter d 1 ≠ 1 := far_join (by decide) far_21 (far_c600_716170907)
theorem far_c600_1533459679 : far 600 1533459679 = some 2154875321 := by decide +kernel
theorem far_23 : iter 13800 1 = 2154875321 ∧ ∀ d, 0 < d → d ≤ 13800 → iter d 1 ≠ 1 := far_join (by decide) far_22 (far_c600_1533459679)
theorem far_c600_2154875321 : far 600 2154875321 = some 3050293800 := by decide +kernel
theorem far_24 : iter 14400 1 = 3050293800 ∧ ∀ d, 0 < d → d ≤ 14400 → iter d 1 ≠ 1 := far_join (by decide) far_23 (far_c600_2154875321)
theorem far_c600_3050293800 : far 600 3050293800 = some 597652785 := by decide +kernel
theorem far_25 : iter 15000 1 = 597652785 ∧ ∀ d, 0 < d → d ≤ 15000 → iter d 1 ≠ 1 := far_join (by decide) far_24 (far_c600_3050293800)
theorem far_c600_597652785 : far 600 597652785 = some 1506409234 := by decide +kernel
theorem far_26 : iter 15600 1 = 1506409234 ∧ ∀ d, 0 < d → d ≤ 15600 → iter d 1 ≠ 1 := far_join (by decide) far_25 (far_c600_597652785)
theorem far_c600_1506409234 : far 600 1506409234 = some 335284677 := by decide +kernel
theorem far_27 : iter 16200 1 = 335284677 ∧ ∀ d, 0 < d → d ≤ 16200 → iter d 1 ≠ 1 := far_join (by decide) far_26 (far_c600_1506409234)
theorem far_c600_335284677 : far 600 335284677 = some 1018917162 := by decide +kernel
theorem far_28 : iter 16800 1 = 1018917162 ∧ ∀ d, 0 < d → d ≤ 16800 → iter d 1 ≠ 1 := far_join (by decide) far_27 (far_c600_335284677)
theorem far_c600_1018917162 : far 600 1018917162 = some 531784989 := by decide +kernel
theorem far_29 : iter 17400 1 = 531784989 ∧ ∀ d, 0 < d → d ≤ 17400 → iter d 1 ≠ 1 := far_join (by decide) far_28 (far_c600_1018917162)
theorem far_c600_531784989 : far 600 531784989 = some 2565661964 := by decide +kernel
theorem far_30 : iter 18000 1 = 2565661964 ∧ ∀ d, 0 < d → d ≤ 18000 → iter d 1 ≠ 1 := far_join (by decide) far_29 (far_c600_531784989)
theorem far_c600_2565661964 : far 600 2565661964 = some 2171158945 := by decide +kernel
theorem far_31 : iter 18600 1 = 2171158945 ∧ ∀ d, 0 < d → d ≤ 18600 → iter d 1 ≠ 1 := far_join (by decide) far_30 (far_c600_2565661964)
theorem far_c600_2171158945 : far 600 2171158945 = some 474475824 := by decide +kernel
theorem far_32 : iter 19200 1 = 474475824 ∧ ∀ d, 0 < d → d ≤ 19200 → iter d 1 ≠ 1 := far_join (by decide) far_31 (far_c600_2171158945)
theorem far_c600_474475824 : far 600 474475824 = some 1445602535 := by decide +kernel
theorem far_33 : iter 19800 1 = 1445602535 ∧ ∀ d, 0 < d → d ≤ 19800 → iter d 1 ≠ 1 := far_join (by decide) far_32 (far_c600_474475824)
theorem far_c600_1445602535 : far 600 1445602535 = some 2689143988 := by decide +kernel
theorem far_34 : iter 20400 1 = 2689143988 ∧ ∀ d, 0 < d → d ≤ 20400 → iter d 1 ≠ 1 := far_join (by decide) far_33 (far_c600_1445602535)
theorem far_c600_2689143988 : far 600 2689143988 = some 2841647605 := by decide +kernel
theorem far_35 : iter 21000 1 = 2841647605 ∧ ∀ d, 0 < d → d ≤ 21000 → iter d 1 ≠ 1 := far_join (by decide) far_34 (far_c600_2689143988)
theorem far_c600_2841647605 : far 600 2841647605 = some 4146448354 := by decide +kernel
theorem far_36 : iter 21600 1 = 4146448354 ∧ ∀ d, 0 < d → d ≤ 21600 → iter d 1 ≠ 1 := far_join (by decide) far_35 (far_c600_2841647605)
theorem far_c600_4146448354 : far 600 4146448354 = some 673604079 := by decide +kernel
theorem far_37 : iter 22200 1 = 673604079 ∧ ∀ d, 0 < d → d ≤ 22200 → iter d 1 ≠ 1 := far_join (by decide) far_36 (far_c600_4146448354)
theorem far_c600_673604079 : far 600 673604079 = some 3137308596 := by decide +kernel
theorem far_38 : iter 22800 1 = 3137308596 ∧ ∀ d, 0 < d → d ≤ 22800 → iter d 1 ≠ 1 := far_join (by decide) far_37 (far_c600_673604079)
theorem far_c600_3137308596 : far 600 3137308596 = some 2291220905 := by decide +kernel
theorem far_39 : iter 23400 1 = 2291220905 ∧ ∀ d, 0 < d → d ≤ 23400 → iter d 1 ≠ 1 := far_join (by decide) far_38 (far_c600_3137308596)
theorem far_c600_2291220905 : far 600 2291220905 = some 3597962882 := by decide +kernel
theorem far_40 : iter 24000 1 = 3597962882 ∧ ∀ d, 0 < d → d ≤ 24000 → iter d 1 ≠ 1 := far_join (by decide) far_39 (far_c600_2291220905)
theorem far_c600_3597962882 : far 600 3597962882 = some 337235921 := by decide +kernel
theorem far_41 : iter 24600 1 = 337235921 ∧ ∀ d, 0 < d → d ≤ 24600 → iter d 1 ≠ 1 := far_join (by decide) far_40 (far_c600_3597962882)
theorem far_all : iter 24600 1 = 337235921 ∧ ∀ d, 0 < d → d ≤ 24600 → iter d 1 ≠ 1 := far_41
theorem iter_ne_one {d : Nat} (h0 : 0 < d) (hd : d ≤ 24600) : iter d 1 ≠ 1 := far_all.2 d h0 hd
/-- One, two or three bits. -/
theorem two_ne {a b : Nat} (h : a ≠ b) (ha : a ≤ 24600) (hb : b ≤ 24600) : iter a 1 ^^^ iter b 1 ≠ 0 := by
  intro e
  have e := xor_eq_zero e
  rcases Nat.lt_or_gt_of_ne h with hlt | hlt
  · obtain ⟨d, rfl⟩ : ∃ d, b = a + d := ⟨b - a, by omega⟩
    rw [iter_add] at e
    exact iter_ne_one (by omega) (by omega) (iter_inj (by decide) (iter_lt (by decide) _) a e).symm
  · obtain ⟨d, rfl⟩ : ∃ d, a = b + d := ⟨a - b, by omega⟩
    rw [iter_add] at e
    exact iter_ne_one (by omega) (by omega) (iter_inj (iter_lt (by decide) _) (by decide) b e)
theorem one_ne_zero (a : Nat) : iter a 1 ≠ 0 := fun h => by
  have := iter_ne (by decide) a h
  omega
theorem three_ne (a b c : Nat) : iter a 1 ^^^ iter b 1 ^^^ iter c 1 ≠ 0 := fun h => by
  have := congrArg par h
  rw [par_xor, par_xor, par_iter, par_iter, par_iter, par_1, par_zero] at this
  omega
theorem xor_cancel {a d : Nat} (h : a ^^^ d = a) : d = 0 := by
  have := congrArg (a ^^^ ·) h
  simpa [← Nat.xor_assoc] using this
theorem not_opened {l t : List Int} (hl : Bytes l) (ht : Bytes t) (ho : opened l) {d : Nat} (hF : F t = F l ^^^ d) (hd : d ≠ 0) : ¬ opened t := fun h => by
  rw [F_opened ht h, F_opened hl ho] at hF
  exact hd (xor_cancel hF.symm)
end Go.Proofs.YtnmjelcicbfjdaaDoor.Crc
