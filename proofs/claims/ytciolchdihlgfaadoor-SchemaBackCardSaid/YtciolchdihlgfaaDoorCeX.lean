import Derived.Test.YtciolchdihlgfaaDoorPCox
import Derived.Test.YtciolchdihlgfaaDoorUt
import Derived.Test.YtciolchdihlgfaaDoorWireSpec2
import Derived.Deep.QuietTactic
import Derived.BigQuiet
import Derived.Outline
import Derived.Deep.LoopGhost
/- Plain law: the order of cells: the rank of a number under its kind, then the bytes. -/
import Derived.Lib.Bytealg
import Derived.Laws.BitsAllLaws
import Derived.Test.YtciolchdihlgfaaDoorShc
import Derived.Lib.ValidLaws
import Derived.Test.YtciolchdihlgfaaDoorRows
import Derived.Lib.LaidU8
/-! Cell: what is wrong with a cell; the kinds. -/
namespace Go.Proofs.YtciolchdihlgfaaDoor.Co
open Go.RowKit Go.Proofs.YtciolchdihlgfaaDoorW.PrintWords Go.Proofs.YtciolchdihlgfaaDoorW.PrintLast Go.Proofs.YtciolchdihlgfaaDoorW.PrintMore Go.Proofs.YtciolchdihlgfaaDoor.Wire Go.Proofs.YtciolchdihlgfaaDoor.PCo
set_option linter.unusedVariables false
set_option linter.unusedSimpArgs false
set_option maxRecDepth 100000
end Go.Proofs.YtciolchdihlgfaaDoor.Co
/-! Column: cell.Check, kind by kind. -/
namespace Go.Proofs.YtciolchdihlgfaaDoor.Co
open Go.RowKit Go.Proofs.YtciolchdihlgfaaDoorW.PrintWords Go.Proofs.YtciolchdihlgfaaDoorW.PrintLast Go.Proofs.YtciolchdihlgfaaDoorW.PrintMore Go.Proofs.YtciolchdihlgfaaDoor.Wire Go.Proofs.YtciolchdihlgfaaDoor.PCo
set_option linter.unusedVariables false
set_option linter.unusedSimpArgs false
set_option maxRecDepth 100000
theorem size_zero {s : ByteArray} (h : s.size = 0) : s = ⟨#[]⟩ := by
  obtain ⟨d⟩ := s
  congr 1
  exact Array.eq_empty_of_size_eq_zero h
theorem ne_empty {s : ByteArray} (h : s.size ≠ 0) : s.toList ≠ [] := by
  rw [str_toList]
  intro e
  have := congrArg List.length e
  rw [data_length] at this
  exact h this
end Go.Proofs.YtciolchdihlgfaaDoor.Co
set_option autoImplicit false
namespace Go.Proofs.YtciolchdihlgfaaDoor
namespace Ce

def flip (n : Int) : Int := if n < 9223372036854775808 then n + 9223372036854775808 else n - 9223372036854775808

def cmpi (a b : Int) : Int := if a < b then -1 else if b < a then 1 else 0

def orv (a b : Int) : Int := if a = 0 then b else a

abbrev cb (s t : ByteArray) : Int := Lib.compareBytes s.data.toList t.data.toList

theorem xor_high (a : Nat) (h : a < 9223372036854775808) : a ^^^ 9223372036854775808 = a + 9223372036854775808 := by
  apply Nat.eq_of_testBit_eq
  intro i
  rw [Nat.testBit_xor, show (9223372036854775808 : Nat) = 2 ^ 63 from rfl, Nat.testBit_two_pow, Nat.add_comm]
  rcases Nat.lt_trichotomy i 63 with c | c | c
  · rw [Nat.testBit_two_pow_add_gt c]
    simp [show ¬ 63 = i by omega]
  · subst c
    rw [Nat.testBit_two_pow_add_eq]; simp
  · have hi : 2 ^ 64 ≤ 2 ^ i := Nat.pow_le_pow_right (by omega) (by omega)
    rw [Nat.testBit_lt_two_pow (show a < 2 ^ i by omega), Nat.testBit_lt_two_pow (show 2 ^ 63 + a < 2 ^ i by omega)]
    simp [show ¬ 63 = i by omega]

theorem flip_xor (n : Int) (h0 : 0 ≤ n) (h1 : n < 18446744073709551616) : bits .xor .u64 n 9223372036854775808 = flip n := by
  obtain ⟨a, rfl⟩ : ∃ a : Nat, n = (a : Int) := ⟨n.toNat, by omega⟩
  have e := u64_xor_nat a 9223372036854775808 (by omega) (by omega)
  rw [show ((9223372036854775808 : Nat) : Int) = 9223372036854775808 from rfl] at e
  rw [e]
  unfold flip
  by_cases c : a < 9223372036854775808
  · rw [xor_high a c, if_pos (by omega)]; omega
  · obtain ⟨d, rfl⟩ : ∃ d, a = d + 9223372036854775808 := ⟨a - 9223372036854775808, by omega⟩
    rw [← xor_high d (by omega), Nat.xor_assoc, Nat.xor_self, Nat.xor_zero, if_neg (by rw [xor_high d (by omega)]; omega), xor_high d (by omega)]
    omega

theorem not_xor (n : Int) (h0 : 0 ≤ n) (h1 : n < 18446744073709551616) : bits .xor .u64 18446744073709551615 n = 18446744073709551615 - n := by
  obtain ⟨a, rfl⟩ : ∃ a : Nat, n = (a : Int) := ⟨n.toNat, by omega⟩
  have e := u64_xor_nat 18446744073709551615 a (by omega) (by omega)
  rw [show ((18446744073709551615 : Nat) : Int) = 18446744073709551615 from rfl] at e
  rw [e]
  have b : (18446744073709551615 : Nat) ^^^ a = 18446744073709551615 - a := by
    have x := congrArg BitVec.toNat (BitVec.allOnes_xor (x := BitVec.ofNat 64 a))
    rw [BitVec.toNat_xor, BitVec.toNat_not, BitVec.toNat_allOnes, BitVec.toNat_ofNat, Nat.mod_eq_of_lt (by omega)] at x
    exact x
  rw [b]; omega

theorem cmpi_rng (a b : Int) : -1 ≤ cmpi a b ∧ cmpi a b ≤ 1 := by unfold cmpi; (repeat' split) <;> omega
theorem cmpi_neg (a b : Int) : cmpi a b = -cmpi b a := by unfold cmpi; (repeat' split) <;> omega
theorem cmpi_zero (a b : Int) : cmpi a b = 0 ↔ a = b := by unfold cmpi; (repeat' split) <;> omega
theorem cmpi_lt (a b : Int) : cmpi a b < 0 ↔ a < b := by unfold cmpi; (repeat' split) <;> omega
theorem cmpi_gt (a b : Int) : 0 < cmpi a b ↔ b < a := by unfold cmpi; (repeat' split) <;> omega

theorem cmpb_rng : ∀ a b : List UInt8, -1 ≤ Lib.compareBytes a b ∧ Lib.compareBytes a b ≤ 1
  | [], [] => by simp [Lib.compareBytes]
  | [], _ :: _ => by simp [Lib.compareBytes]
  | _ :: _, [] => by simp [Lib.compareBytes]
  | a :: al, b :: bs => by
    unfold Lib.compareBytes
    have := cmpb_rng al bs
    (repeat' split) <;> omega

theorem cmpb_neg : ∀ a b : List UInt8, Lib.compareBytes a b = -Lib.compareBytes b a
  | [], [] => by simp [Lib.compareBytes]
  | [], _ :: _ => by simp [Lib.compareBytes]
  | _ :: _, [] => by simp [Lib.compareBytes]
  | a :: al, b :: bs => by
    unfold Lib.compareBytes
    have ih := cmpb_neg al bs
    by_cases h : a < b
    · have h' : ¬ b < a := fun c => by have := UInt8.lt_asymm h; exact this c
      rw [if_pos h, if_neg h', if_pos h]
    · by_cases h' : b < a
      · rw [if_neg h, if_pos h', if_pos h']; rfl
      · rw [if_neg h, if_neg h', if_neg h', if_neg h, ih]

theorem cmpb_zero : ∀ a b : List UInt8, Lib.compareBytes a b = 0 ↔ a = b
  | [], [] => by simp [Lib.compareBytes]
  | [], _ :: _ => by simp [Lib.compareBytes]
  | _ :: _, [] => by simp [Lib.compareBytes]
  | a :: al, b :: bs => by
    unfold Lib.compareBytes
    have ih := cmpb_zero al bs
    by_cases h : a < b
    · rw [if_pos h]
      constructor
      · intro c; simp at c
      · intro c; cases c; exact absurd h (UInt8.lt_irrefl _)
    · by_cases h' : b < a
      · rw [if_neg h, if_pos h']
        constructor
        · intro c; simp at c
        · intro c; cases c; exact absurd h' (UInt8.lt_irrefl _)
      · have e : a = b := by
          apply UInt8.toNat_inj.1
          rw [UInt8.lt_iff_toNat_lt] at h h'
          omega
        rw [if_neg h, if_neg h', ih]
        subst e; simp

theorem cmpb_trans : ∀ a b c : List UInt8, Lib.compareBytes a b ≤ 0 → Lib.compareBytes b c ≤ 0 →
    Lib.compareBytes a c ≤ 0 ∧ (Lib.compareBytes a b < 0 ∨ Lib.compareBytes b c < 0 → Lib.compareBytes a c < 0)
  | [], [], [] => by simp [Lib.compareBytes]
  | [], [], _ :: _ => by simp [Lib.compareBytes]
  | [], _ :: _, [] => by simp [Lib.compareBytes]
  | [], _ :: _, _ :: _ => by simp [Lib.compareBytes]
  | _ :: _, [], _ => by simp [Lib.compareBytes]
  | _ :: _, _ :: _, [] => by simp [Lib.compareBytes]
  | a :: al, b :: bs, c :: cs => by
    unfold Lib.compareBytes
    have ih := cmpb_trans al bs cs
    simp only [UInt8.lt_iff_toNat_lt]
    generalize a.toNat = x
    generalize b.toNat = y
    generalize c.toNat = z
    generalize Lib.compareBytes al bs = p at *
    generalize Lib.compareBytes bs cs = q at *
    generalize Lib.compareBytes al cs = r at *
    intro h1 h2
    by_cases e1 : x < y
    · by_cases e2 : y < z
      · rw [if_pos (show x < z by omega)]; exact ⟨by omega, fun _ => by omega⟩
      · rw [if_neg e2] at h2
        by_cases e3 : z < y
        · rw [if_pos e3] at h2; omega
        · rw [if_pos (show x < z by omega)]; exact ⟨by omega, fun _ => by omega⟩
    · rw [if_neg e1] at h1
      by_cases e3 : y < x
      · rw [if_pos e3] at h1; omega
      · rw [if_neg e3] at h1
        by_cases e2 : y < z
        · rw [if_pos (show x < z by omega)]; exact ⟨by omega, fun _ => by omega⟩
        · rw [if_neg e2] at h2
          by_cases e4 : z < y
          · rw [if_pos e4] at h2; omega
          · rw [if_neg e4] at h2
            rw [if_neg e1, if_neg e3, if_neg e2, if_neg e4, if_neg (show ¬ x < z by omega), if_neg (show ¬ z < x by omega)]
            exact ih h1 h2

theorem data_inj {s t : ByteArray} (h : s.data.toList = t.data.toList) : s = t := by
  cases s; cases t; simp_all

end Ce
end Go.Proofs.YtciolchdihlgfaaDoor
/-! Cell: the rank of a number; the order of two cells. -/
namespace Go.Proofs.YtciolchdihlgfaaDoor.Ce
open Go.RowKit Go.Proofs.YtciolchdihlgfaaDoorW.PrintWords Go.Proofs.YtciolchdihlgfaaDoorW.PrintLast Go.Proofs.YtciolchdihlgfaaDoorW.PrintMore Go.Proofs.YtciolchdihlgfaaDoor.Wire Go.Proofs.YtciolchdihlgfaaDoor.PCo Go.Proofs.YtciolchdihlgfaaDoor.Co
set_option linter.unusedVariables false
set_option linter.unusedSimpArgs false
set_option maxRecDepth 100000
theorem w64 {n : Int} (h0 : -9223372036854775808 ≤ n) (h1 : n ≤ 9223372036854775807) : wrap64 n = n := by
  unfold wrap64
  omega
theorem lit_i (k : IntKind) (t : TypeId) (W : World) (xs : List Int) (fr : Nat × Nat) (hx : xs.length ≤ 9223372036854775807) : Kd.C (Kd.int k) (W.alloc (.cells (xs.map (Value.int k)).toArray t fr)) (some ⟨W.heap.size, 0, none⟩) xs.length xs := by
  refine Kd.C_of_reads (d := (0 : Int)) (h1 := fun _ => rfl) ⟨rfl, hx, fun _ => ⟨_, rfl, fun j hj => ?_⟩⟩
  rw [add_plain, cell_of_row _ _ _ _ _ _ (heap_alloc_new W _)]
  simp [List.getElem?_eq_getElem hj, List.getD_eq_getElem?_getD]
theorem cell_of_below {W U : World} {x : Nat} {cs : Array Value} {t : TypeId} {B : Nat} (h : W.heap[x]? = some (.cells cs t (0, 0))) (hx : x < B) (hb : Below B W U) (j : Nat) : U.cell? ⟨x, j, none⟩ = cs[j]? := blk_cell ((hb.block x hx).trans h) j
theorem blk_cell_ {W : World} {x : Nat} {cs : Array Value} {t : TypeId} (h : W.heap[x]? = some (.cells cs t (0, 0))) (j : Nat) : W.cell? ⟨x, j, none⟩ = cs[j]? := blk_cell h j
end Go.Proofs.YtciolchdihlgfaaDoor.Ce
/-! Cell: the document's answers, as functions: UTF-8, what is wrong with a cell. -/
namespace Go.Proofs.YtciolchdihlgfaaDoor.Co
open Go.RowKit Go.Proofs.YtciolchdihlgfaaDoorW.PrintWords Go.Proofs.YtciolchdihlgfaaDoorW.PrintLast Go.Proofs.YtciolchdihlgfaaDoorW.PrintMore Go.Proofs.YtciolchdihlgfaaDoor.Wire Go.Proofs.YtciolchdihlgfaaDoor.PCo Go.Proofs.YtciolchdihlgfaaDoor.Ce
set_option linter.unusedVariables false
set_option linter.unusedSimpArgs false
set_option maxRecDepth 100000
theorem bt_nat (s : ByteArray) {n : Nat} (h : n < s.size) : bt s (n : Int) = ((s[n]'h).toNat : Int) := by
  unfold bt
  rw [dif_pos (by rw [Int.toNat_natCast]; exact h)]
  rfl
/-! UTF-8 -/
theorem bt_drop (s : ByteArray) {i j : Nat} (h : i + j < s.size) : bt s ((i + j : Nat) : Int) = (((s.data.toList.drop i).getD j 0).toNat : Int) := by
  rw [bt_nat s h, List.getD_eq_getElem?_getD, List.getElem?_drop, List.getElem?_eq_getElem (by rw [data_length]; exact h)]
  rfl
/-! what is wrong with a cell -/
theorem toList_nil (s : ByteArray) : s.toList = ([] : List UInt8) ↔ s.size = 0 := by
  constructor
  · intro h
    by_cases e : s.size = 0
    · exact e
    · exact absurd h (ne_empty e)
  · intro h
    rw [size_zero h, str_toList]
/-! bounds -/
def bound (n b : Int) : Int := if n < 0 ∨ b < 0 ∨ n > 16777216 ∨ b > 16777216 then 0 else 10 * n + b
/-! ### the document's call -/
end Go.Proofs.YtciolchdihlgfaaDoor.Co
/-! Cell: the kinds' names, as the program's variable holds them. -/
namespace Go.Proofs.YtciolchdihlgfaaDoor.Ce
open Go.RowKit Go.Proofs.YtciolchdihlgfaaDoorW.PrintWords Go.Proofs.YtciolchdihlgfaaDoorW.PrintLast Go.Proofs.YtciolchdihlgfaaDoorW.PrintMore Go.Proofs.YtciolchdihlgfaaDoor.Wire Go.Proofs.YtciolchdihlgfaaDoor.PCo Go.Proofs.YtciolchdihlgfaaDoor.Co Go.Lib
set_option linter.unusedVariables false
set_option linter.unusedSimpArgs false
set_option maxRecDepth 100000
def NAMES : List ByteArray := [(⟨#[105, 110, 116]⟩ : ByteArray), (⟨#[117, 105, 110, 116]⟩ : ByteArray), (⟨#[98, 111, 111, 108]⟩ : ByteArray), (⟨#[98, 121, 116, 101, 115]⟩ : ByteArray), (⟨#[116, 101, 120, 116]⟩ : ByteArray), (⟨#[102, 108, 111, 97, 116]⟩ : ByteArray)]
/-- The variable cell.names holds the kinds' names. -/
structure NamesW (w : World) : Prop where
  cell : ∀ j, j < 6 → w.cell? ⟨0, 0 + j, none⟩ = some (.string (NAMES.getD j ByteArray.empty))
  lt : 0 < w.heap.size
theorem NamesW.below {w w' : World} (h : NamesW w) (hb : Below w.heap.size w w') : NamesW w' := by
  refine ⟨fun j hj => ?_, Nat.lt_of_lt_of_le h.lt hb.size⟩
  rw [← h.cell j hj]
  have := hb.block _ h.lt
  simp only [World.cell?]
  rw [this]
theorem names_of_reads {w : World} (h : VarReads Tryd.prog w "deckle/cell.names" Rows.laid_deckle_cell_names) : NamesW w := by
  obtain ⟨g, t, cs, fuel, p, hg, hty, hvar, hd⟩ := h
  obtain rfl : 0 = g := Option.some.inj ((show Tryd.prog.globalNamed "deckle/cell.names" = some 0 from by kernel_rfl).symm.trans hg)
  obtain rfl : 92 = t := Option.some.inj ((show (Tryd.prog.globals[0]?).map (·.type) = some 92 from by kernel_rfl).symm.trans hty)
  have key : ∀ j, j < 6 → w.cell? ⟨0, 0 + j, none⟩ = some (.string (NAMES.getD j ByteArray.empty)) := by
    intro j hj
    obtain ⟨fuel', d, q, hdi, he⟩ := array_elem Tryd.underlying92 hd j hj
    rw [show Tryd.prog.cellsOf 9 = 1 from by kernel_rfl] at he
    obtain ⟨s, e1, e2, -⟩ := DataW.trod_string Tryd.underlying9 he
    have e3 : cs[j]? = some (.string s) := by
      have := congrArg (·[0]?) e1
      simp only [List.getElem?_take, List.getElem?_drop, Nat.mul_one] at this
      simpa using this
    rw [Nat.zero_add, World.var?_cell hg hvar j, e3]
    simp only [Prod.mk.injEq] at e2
    rw [e2.1] at hdi
    congr 2
    have hs : ∀ l : List UInt8, s.data.toList = l → s = ⟨l.toArray⟩ := fun l hl => by
      obtain ⟨a⟩ := s
      have : a.toList = l := hl
      rw [← this]
    have hj' : j = 0 ∨ j = 1 ∨ j = 2 ∨ j = 3 ∨ j = 4 ∨ j = 5 := by omega
    rcases hj' with rfl | rfl | rfl | rfl | rfl | rfl <;> (simp at hdi; exact hs _ hdi.symm)
  refine ⟨key, ?_⟩
  have h0 := key 0 (by omega)
  simp only [World.cell?] at h0
  cases hh : w.heap[0]? with
  | none => rw [hh] at h0; simp at h0
  | some o => exact blk_lt hh
theorem row_of (w' : World) (B : Nat) {v : Value} (h : w'.ownsRow B 9 1 v 6 (NAMES.map Value.string)) : Kd.R Kd.string 9 w' B (fun _ => True) v NAMES :=
  ⟨fun _ _ => trivial, _, h, by
    unfold NAMES
    simp only [List.map_cons, List.map_nil]
    exact Reps.one (show Kd.M Kd.string _ _ _ _ [_] from rfl) (Reps.one (show Kd.M Kd.string _ _ _ _ [_] from rfl) (Reps.one (show Kd.M Kd.string _ _ _ _ [_] from rfl) (Reps.one (show Kd.M Kd.string _ _ _ _ [_] from rfl) (Reps.one (show Kd.M Kd.string _ _ _ _ [_] from rfl) (Reps.one (show Kd.M Kd.string _ _ _ _ [_] from rfl) (Reps.none _ _))))))⟩
set_option maxHeartbeats 4000000 in
theorem names_calls (w : World) (hN : NamesW w) : Calls Tryd.prog 30 #[] w fun e w' => ∃ v, e = .returned v ∧ Kd.R Kd.string 9 w' w.heap.size (fun _ => True) v NAMES ∧ Below w.heap.size w w' := by
  have HC := Aside0.mk (fun (W : World) (hn : NamesW W) => Tryd.slices_Clone_string 0 0 6 6 NAMES W (by decide) (by decide) (fun j hj => hn.cell j hj))
  go_enter Tryd.func30, Tryd.ntmps30
  go_wp2_with fail
  refine (HC.out _ hN).mono ?_
  rintro e w1 ⟨v, rfl, ho, -, hb⟩
  go_wp2_with fail
  go_ret
  exact ⟨v, rfl, row_of _ _ ho, hb⟩
end Go.Proofs.YtciolchdihlgfaaDoor.Ce
