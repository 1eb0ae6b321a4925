import Derived.Test.YtciolchdihlgfaaDoorCeX
import Derived.Test.YtciolchdihlgfaaDoorShs
import Derived.Test.YtciolchdihlgfaaDoorPScx
import Derived.Shelf.Strings.SlTrimAscii
import Derived.Maps.Own
import Derived.Maps.Views
import Derived.Carry
import Derived.StringKeys
import Derived.Test.YtciolchdihlgfaaDoorGSc
import Derived.Lib.ConvBytes
import Derived.Lib.SplitLaws
/-! Schema: whether a name may be; the names that were; a kind. -/
namespace Go.Proofs.YtciolchdihlgfaaDoor.Sc
open Go.RowKit Go.Proofs.YtciolchdihlgfaaDoorW.PrintWords Go.Proofs.YtciolchdihlgfaaDoorW.PrintLast Go.Proofs.YtciolchdihlgfaaDoorW.PrintMore Go.Proofs.YtciolchdihlgfaaDoor.Wire Go.Proofs.YtciolchdihlgfaaDoor.PSc Go.Proofs.YtciolchdihlgfaaDoor.Co Go.Proofs.YtciolchdihlgfaaDoor.Ce Go.Maps Go.WideMaps
set_option linter.unusedVariables false
set_option linter.unusedSimpArgs false
set_option maxRecDepth 100000
abbrev LET : ByteArray := ⟨#[97, 98, 99, 100, 101, 102, 103, 104, 105, 106, 107, 108, 109, 110, 111, 112, 113, 114, 115, 116, 117, 118, 119, 120, 121, 122, 48, 49, 50, 51, 52, 53, 54, 55, 56, 57, 95]⟩
/-- A byte of a name. -/
def lt_ (b : UInt8) : Bool := LET.data.toList.contains b
/-- Is each byte one of a name? -/
def lts (s : ByteArray) : Bool := s.data.toList.all lt_
theorem lt_iff : ∀ b : Fin 256, lt_ (UInt8.ofNat b.val) = decide (97 ≤ b.val ∧ b.val ≤ 122 ∨ 48 ≤ b.val ∧ b.val ≤ 57 ∨ b.val = 95) := by decide +kernel
theorem drop_nil {α : Type} (p : α → Bool) : ∀ l : List α, l.dropWhile p = [] ↔ l.all p = true
  | [] => by simp
  | a :: l => by
    rw [List.dropWhile_cons]
    cases h : p a
    · simp [h]
    · simp [h, drop_nil p l]
theorem trim_nil (l cs : List UInt8) : Lib.trimS l cs = [] ↔ l.all (cs.contains ·) = true := by
  unfold Lib.trimS Lib.trimLeftS Lib.trimRightS
  rw [drop_nil]
  constructor
  · intro h
    have e : (l.reverse.dropWhile (cs.contains ·)) = [] := by
      cases hd : l.reverse.dropWhile (cs.contains ·) with
      | nil => rfl
      | cons a t =>
        rw [hd] at h
        simp only [List.all_reverse, List.all_cons, Bool.and_eq_true] at h
        have : ¬ (cs.contains a = true) := by
          have := List.head_dropWhile_not (p := (cs.contains ·)) (l := l.reverse) (by rw [hd]; simp)
          simp only [hd, List.head_cons] at this
          rw [this]; simp
        exact absurd h.1 this
    rw [drop_nil, List.all_reverse] at e
    exact e
  · intro h
    have e : l.reverse.dropWhile (cs.contains ·) = [] := (drop_nil _ _).2 (by rw [List.all_reverse]; exact h)
    rw [e]; rfl
theorem trim_calls (s : ByteArray) (h0 : 0 < s.size) (hs : s.size ≤ 9223372036854775807) (w : World) : Calls Tryd.prog 44 #[.string s, .string LET] w fun e w' => ∃ u : ByteArray, e = .returned (.string u) ∧ (u.toList = [] ↔ lts s = true) ∧ Below w.heap.size w w' := by
  refine (Any.strings_Trim_set Tryd.lays160 (by intro w; kernel_rfl) (by kernel_rfl) s LET w (by decide) h0 hs (by decide) (by
    intro j b hb
    have hm : b ∈ LET.data.toList := List.mem_of_getElem? hb
    have all : ∀ x ∈ LET.data.toList, x.toNat < 128 := by decide
    exact all b hm)).mono ?_
  rintro e w' ⟨rfl, q, rfl⟩
  refine ⟨_, rfl, ?_, pw_below_drewN (below_alloc (below_alloc (Below.refl _ _) _) _) q⟩
  rw [str_toList]
  show (Lib.trimS s.data.toList LET.data.toList).toArray.toList = [] ↔ _
  rw [List.toList_toArray, trim_nil]
  exact Iff.rfl
/-! ### the names that were -/
theorem lawS : Keyed Tryd.prog 9 := string_keyed Tryd.underlying9
theorem zeroB (w : World) : (zeroValue 4).run Tryd.prog w = .ok (.bool false) w := by kernel_rfl
theorem plainElem_bool_inv {H : Type} {P : Program} {e : TypeId} (he : P.underlying e = some .bool) {v : Value} {z : DataW H × List MemPlace} (h : plainElem P e v = some z) : ∃ a, v = .bool a ∧ z = (.lit (.bool a), []) := by
  unfold plainElem at h
  rw [he] at h
  cases v <;> simp at h
  exact ⟨_, rfl, h.symm⟩
/-- Is it one of the names? -/
def has (ks : List ByteArray) (k : ByteArray) : Bool := ks.any (fun x => x.data.toList == k.data.toList)
theorem has_iff (ks : List ByteArray) (k : ByteArray) : has ks k = true ↔ k ∈ ks := by
  unfold has
  rw [List.any_eq_true]
  constructor
  · rintro ⟨x, hx, e⟩
    rw [← data_inj (beq_iff_eq.1 e)]; exact hx
  · intro h
    exact ⟨k, h, by simp⟩
/-- The map at block b holds just these names, each as true. -/
def Held (w : World) (b : Nat) (ks : List ByteArray) : Prop :=
  ∃ (n : Nat) (D : DataW Unit), w.ownsMap Tryd.prog 9 (plainElem Tryd.prog 4) b n D ∧ Go.Maps.IsMap D ∧ n ≤ ks.length ∧ ∀ k : ByteArray, D.atKey (.string k.data.toList) (.lit (.bool false)) = .lit (.bool (has ks k))
theorem held_new (w : World) : Held (w.alloc (.map #[] 0)) w.heap.size [] :=
  ⟨0, .map [], World.ownsMap_made _ _ _ _, Go.Maps.isMap_empty, Nat.le_refl _, fun k => by simp [DataW.atKey, has]⟩
theorem held_look {w : World} {b : Nat} {ks : List ByteArray} (h : Held w b ks) {k : ByteArray} (hk : k.size ≤ 9223372036854775807) :
    (Instr.lookup 50 (.map (some b)) (.string k) false).run Tryd.prog w = .ok (.bool (has ks k)) w := by
  obtain ⟨n, D, ho, hm, hn, hat⟩ := h
  obtain ⟨v, ps, hrun, hv⟩ := ho.lookup lawS Tryd.underlying50 (zeroB w) (plainElem_bool (H := Unit) Tryd.underlying4 false) (keyOf_string_mk Tryd.underlying9 (by unfold maxLen; omega))
  obtain ⟨a, rfl, hz⟩ := plainElem_bool_inv Tryd.underlying4 hv
  rw [hat k] at hz
  simp only [Prod.mk.injEq, DataW.lit.injEq, Lit.bool.injEq] at hz
  rw [hrun, hz.1]
theorem held_put {w : World} {b : Nat} {ks : List ByteArray} (h : Held w b ks) (hl : ks.length < 100) {k : ByteArray} (hk : k.size ≤ 9223372036854775807) :
    ∃ w', (Instr.mapUpdate 50 (.map (some b)) (.string k) (.bool true)).run Tryd.prog w = .ok () w' ∧ Held w' b (k :: ks) ∧ w.grownBy w' (some b) := by
  obtain ⟨n, D, ho, hm, hn, hat⟩ := h
  obtain ⟨w', hrun, ho', hg⟩ := ho.update lawS Tryd.underlying50 (by unfold maxLen; omega) (keyOf_string_mk Tryd.underlying9 (by unfold maxLen; omega)) (plainElem_bool (H := Unit) Tryd.underlying4 true)
  refine ⟨w', hrun, ⟨n + 1, _, ho', hm.put _ _, by rw [List.length_cons]; omega, fun j => ?_⟩, hg⟩
  by_cases e : j = k
  · subst e
    rw [Go.Maps.atKey_put_same hm (by trivial)]
    simp [has]
  · rw [Go.Maps.atKey_put_other (by intro h; injection h with h1; exact e (data_inj (by first | exact h1 | exact h1.symm))), hat j]
    have : (k.data.toList == j.data.toList) = false := beq_eq_false_iff_ne.2 (fun h => e (data_inj h.symm))
    unfold has
    rw [List.any_cons, this, Bool.false_or]
theorem Held.below {w w' : World} {b : Nat} {ks : List ByteArray} (h : Held w b ks) (hb : Below w.heap.size w w') : Held w' b ks := by
  obtain ⟨n, D, ho, r⟩ := h
  refine ⟨n, D, ?_, r⟩
  have hlt := ho.lt
  obtain ⟨es, clock, hh, F, hs, hD⟩ := ho
  exact ⟨es, clock, (hb.block b hlt).trans hh, F, hs, hD⟩
theorem Held.lt {w : World} {b : Nat} {ks : List ByteArray} (h : Held w b ks) : b < w.heap.size := by
  obtain ⟨n, D, ho, r⟩ := h
  exact ho.lt
/-- May a name be, behind these? -/
def fine (ks : List ByteArray) (s : ByteArray) : Bool := decide (s.size ≠ 0) && lts s && !has ks s
/-- What a call turns that writes to block b alone. -/
structure But (b : Nat) (w w' : World) : Prop where
  below : ∀ B, B ≤ b → B ≤ w.heap.size → Below B w w'
  block : ∀ i, i < w.heap.size → i ≠ b → w'.heap[i]? = w.heap[i]?
theorem But.of {b : Nat} {w w1 w' : World} (hb : Below w.heap.size w w1) (hg : w1.grownBy w' (some b)) : But b w w' := by
  constructor
  · intro B h1 h2
    have hb' : Below B w w1 := ⟨hb.os, hb.tape, hb.output, hb.size, fun k hk => hb.block k (by omega)⟩
    exact hb'.grown hg (by have := hb.size; omega) (fun k e => by injection e with e; omega)
  · intro i hi hne
    exact (hg.block i (by have := hb.size; omega) (fun e => hne (by injection e))).trans (hb.block i hi)
set_option maxHeartbeats 8000000 in
theorem take_calls {w : World} {b : Nat} {ks : List ByteArray} (h : Held w b ks) (hl : ks.length < 100) (s : ByteArray) (hs : s.size ≤ 9223372036854775807) :
    Calls Tryd.prog 22 #[.map (some b), .string s] w fun e w' => e = .returned (.bool (fine ks s)) ∧ Held w' b (s :: ks) ∧ But b w w' := by
  by_cases h0 : s.size = 0
  · have hn : s.toList = [] := by rw [str_toList, ← List.length_eq_zero_iff, data_length]; exact h0
    have s1 : (s.toList != ([] : List UInt8)) = false := by rw [hn]; rfl
    have s2 : (s.toList == ([] : List UInt8)) = true := by rw [hn]; rfl
    have s3 : s.toList.isEmpty = true := by rw [hn]; rfl
    rw [show fine ks s = false from by unfold fine; simp [h0]]
    obtain ⟨w1, hrun, hH, hg⟩ := held_put h hl hs
    have HH := Aside0.mk hH
    have HB := Aside0.mk (But.of (Below.refl _ _) hg)
    clear h h0 hn hs hl hH hg
    go_enter Tryd.func22, Tryd.ntmps22
    go_wp2
    go_ret
    exact ⟨rfl, HH.out, HB.out⟩
  · have s1 : (s.toList != ([] : List UInt8)) = true := bne_iff_ne.mpr (ne_empty h0)
    have s2 : (s.toList == ([] : List UInt8)) = false := beq_eq_false_iff_ne.mpr (ne_empty h0)
    have s3 : s.toList.isEmpty = false := by cases h : s.toList with | nil => exact absurd h (ne_empty h0) | cons => rfl
    have HT := Aside0.mk (trim_calls s (by omega) hs w)
    have HH := Aside0.mk h
    have HS := Aside0.mk hs
    have HL := Aside0.mk hl
    obtain ⟨r, hr⟩ : ∃ r, fine ks s = r := ⟨_, rfl⟩
    rw [hr]
    have hr' : (lts s && !has ks s) = r := by rw [← hr]; unfold fine; simp [h0]
    have HR := Aside0.mk hr'
    clear h h0 hs hl hr hr'
    go_enter Tryd.func22, Tryd.ntmps22
    go_wp2_with fail
    refine (HT.out).mono ?_
    rintro e w1 ⟨u, rfl, hu, hb⟩
    have H1 := HH.out.below hb
    have hlk := held_look H1 HS.out
    obtain ⟨w2, hrun, hH, hg⟩ := held_put H1 HL.out HS.out
    have HH2 := Aside0.mk hH
    have HB := Aside0.mk (But.of hb hg)
    clear H1 hH hg hb HT HH
    cases hL : lts s
    · have hun : u.toList ≠ [] := fun e => by have := hu.1 e; rw [hL] at this; exact Bool.false_ne_true this
      have q1 : (u.toList != ([] : List UInt8)) = true := bne_iff_ne.mpr hun
      have q2 : (u.toList == ([] : List UInt8)) = false := beq_eq_false_iff_ne.mpr hun
      have q3 : u.toList.isEmpty = false := by cases h : u.toList with | nil => exact absurd h hun | cons => rfl
      have hr : r = false := by rw [← HR.out, hL]; rfl
      subst hr
      clear hu hL hun HR
      go_wp2
      go_ret
      exact ⟨rfl, HH2.out, HB.out⟩
    · have hun : u.toList = [] := hu.2 hL
      have q1 : (u.toList != ([] : List UInt8)) = false := by rw [hun]; rfl
      have q2 : (u.toList == ([] : List UInt8)) = true := by rw [hun]; rfl
      have q3 : u.toList.isEmpty = true := by rw [hun]; rfl
      have hr : r = !has ks s := by rw [← HR.out, hL]; rfl
      subst hr
      clear hu hL hun HR
      go_wp2
      go_ret
      exact ⟨rfl, HH2.out, HB.out⟩
set_option maxHeartbeats 4000000 in
theorem kindly_calls (k : Int) (w : World) (hN : NamesW w) : Calls Tryd.prog 24 #[.int .i64 k] w fun e w' => e = .returned (.bool (decide (0 ≤ k ∧ k < 6))) ∧ Below w.heap.size w w' := by
  by_cases h0 : 0 ≤ k
  · have t1 : decide (0 ≤ k) = true := decide_eq_true h0
    have HN := Aside0.mk (names_calls w hN)
    rw [show decide (0 ≤ k ∧ k < 6) = decide (k < 6) from by simp [h0]]
    clear hN h0
    go_enter Tryd.func24, Tryd.ntmps24
    go_wp2_with fail
    refine (HN.out).mono ?_
    rintro e w1 ⟨v, rfl, hv, hb⟩
    obtain ⟨A, c, rfl⟩ := Kd.R_slice hv
    rw [show NAMES.length = 6 from rfl]
    clear hv
    go_wp2_with fail
    go_ret
    exact ⟨by first | rfl | (simp; done), hb⟩
  · have t1 : decide (0 ≤ k) = false := decide_eq_false h0
    rw [show decide (0 ≤ k ∧ k < 6) = false from by simp [h0]]
    clear hN h0
    go_enter Tryd.func24, Tryd.ntmps24
    go_wp2
    go_ret
    exact ⟨rfl, Below.refl _ _⟩
end Go.Proofs.YtciolchdihlgfaaDoor.Sc
/-! Schema: what is wrong with columns. -/
namespace Go.Proofs.YtciolchdihlgfaaDoor.Sc
open Go.RowKit Go.Proofs.YtciolchdihlgfaaDoorW.PrintWords Go.Proofs.YtciolchdihlgfaaDoorW.PrintLast Go.Proofs.YtciolchdihlgfaaDoorW.PrintMore Go.Proofs.YtciolchdihlgfaaDoor.Wire Go.Proofs.YtciolchdihlgfaaDoor.PSc Go.Proofs.YtciolchdihlgfaaDoor.Co Go.Proofs.YtciolchdihlgfaaDoor.Ce Go.Maps Go.WideMaps
set_option linter.unusedVariables false
set_option linter.unusedSimpArgs false
set_option maxRecDepth 100000
abbrev Col := S53
/-- What is wrong with columns, behind these names. -/
def scan (ks : List ByteArray) : List Col → Int
  | [] => 0
  | c :: r => if 32 < c.f0.size then 7 else if fine ks c.f0 = false then 2 else if ¬(0 ≤ c.f1 ∧ c.f1 < 6) then 10 else scan (c.f0 :: ks) r
def sck (l : List Col) : Int := if l.length = 0 then 4 else if 8 < l.length then 13 else scan [] l
/-- The names of columns, the last one first. -/
def nms (l : List Col) : List ByteArray := (l.map (·.f0)).reverse
theorem nms_take {l : List Col} {j : Nat} (h : j < l.length) : nms (l.take (j + 1)) = (rd_T53 l (j : Int)).f0 :: nms (l.take j) := by
  unfold nms rd_T53
  rw [List.take_add_one, List.getElem?_eq_getElem h, List.map_append, List.reverse_append, Int.toNat_natCast, List.getD_eq_getElem?_getD, List.getElem?_eq_getElem h]
  rfl
theorem scan_drop {l : List Col} {j : Nat} (h : j < l.length) (ks : List ByteArray) : scan ks (l.drop j) = if 32 < (rd_T53 l (j : Int)).f0.size then 7 else if fine ks (rd_T53 l (j : Int)).f0 = false then 2 else if ¬(0 ≤ (rd_T53 l (j : Int)).f1 ∧ (rd_T53 l (j : Int)).f1 < 6) then 10 else scan ((rd_T53 l (j : Int)).f0 :: ks) (l.drop (j + 1)) := by
  rw [List.drop_eq_getElem_cons h, scan]
  have e : rd_T53 l (j : Int) = l[j] := by
    unfold rd_T53
    rw [Int.toNat_natCast, List.getD_eq_getElem?_getD, List.getElem?_eq_getElem h]; rfl
  rw [e]
set_option maxHeartbeats 16000000 in
theorem scheck_calls {A : Option Addr} {c : Nat} {l : List Col} (w : World) (hN : NamesW w) (hr : Kd.C k53 w A l.length l) (hc : l.length ≤ c) (hs : ∀ i, (rd_T53 l i).f0.size ≤ 9223372036854775807) :
    Calls Tryd.prog 13 #[.slice A l.length c] w fun e w' => e = .returned (.int .i64 (sck l)) ∧ Below w.heap.size w w' := by
  have HR := Aside0.mk hr
  have HNW := Aside0.mk hN
  have HS := Aside0.mk hs
  obtain ⟨n, hn⟩ : ∃ n, l.length = n := ⟨_, rfl⟩
  have HN := Aside0.mk hn
  have HMX := Aside0.mk (Kd.C_max hr)
  have hmm := @run_makeMap Tryd.prog
  rw [hn]
  by_cases h0 : n = 0
  · have t1 : ((n : Int) == 0) = true := by rw [h0]; rfl
    rw [show sck l = 4 from by unfold sck; rw [if_pos (by omega)]]
    clear hr hc hs hn hN h0
    go_enter Tryd.func13, Tryd.ntmps13
    go_wp2
    go_ret
    exact ⟨rfl, Below.refl _ _⟩
  have t1 : ((n : Int) == 0) = false := beq_eq_false_iff_ne.2 (by omega)
  by_cases h8 : 8 < n
  · have t2 : decide ((8 : Int) < (n : Int)) = true := decide_eq_true (by omega)
    have t3 : decide (8 < n) = true := decide_eq_true h8
    rw [show sck l = 13 from by unfold sck; rw [if_neg (by omega), if_pos (by omega)]]
    clear hr hc hs hn hN h0 h8
    go_enter Tryd.func13, Tryd.ntmps13
    go_wp2
    go_ret
    exact ⟨rfl, Below.refl _ _⟩
  have t2 : decide ((8 : Int) < (n : Int)) = false := decide_eq_false (by omega)
  have t3 : decide (8 < n) = false := decide_eq_false h8
  have H8 := Aside0.mk h8
  obtain ⟨r, hrr⟩ : ∃ r, sck l = r := ⟨_, rfl⟩
  rw [hrr]
  have hR : scan [] l = r := by rw [← hrr]; unfold sck; rw [if_neg (by omega), if_neg (by omega)]
  have HRR := Aside0.mk hR
  have HH := Aside0.mk (held_new w)
  have HB0 := Aside0.mk (below_alloc (Below.refl w.heap.size w) (.map #[] 0))
  clear hr hc hs hn hN h0 h8 hrr hR
  go_enter Tryd.func13, Tryd.ntmps13
  go_wp2_with fail
  go_loopw [5, 17] (fun v i wr => ∃ j : Nat, j ≤ n ∧ i = .int .i64 (j : Int) ∧ Aside0 (Held wr w.heap.size (nms (l.take j))) ∧ Aside0 (scan (nms (l.take j)) (l.drop j) = r) ∧ Aside0 (Below w.heap.size w wr)) (fun v i _ => n - (intOf i).toNat)
  case atStart => exact ⟨0, by omega, rfl, ⟨HH.out⟩, ⟨HRR.out⟩, ⟨HB0.out⟩⟩
  case round =>
    obtain ⟨j, hj, rfl, HM, HT, HB⟩ := hrel
    clear HH HRR HB0
    by_cases hlt : j < n
    · have u1 : decide ((j : Int) < (n : Int)) = true := decide_eq_true (by omega)
      have u2 : decide (j < n) = true := decide_eq_true hlt
      have HLT := Aside0.mk hlt
      obtain ⟨ad, e, h0, h1⟩ := at_T53 (Kd.C_below HR.out HB.out) (j : Int) (by omega) (by have := HN.out; omega)
      cases e
      rw [Int.toNat_natCast] at h0 h1
      have p1 : (0 ≤ (j : Int)) = True := eq_true (by omega)
      have p2 : ((j : Int) < (n : Int)) = True := eq_true (by omega)
      have hmax : (j : Int) + 1 ≤ 9223372036854775807 := by have := H8.out; omega
      have HT2 := Aside0.mk ((scan_drop (l := l) (j := j) (by have := HN.out; omega) (nms (l.take j))).symm.trans HT.out)
      have HNM := Aside0.mk (nms_take (l := l) (j := j) (by have := HN.out; omega))
      have HSZ := Aside0.mk (HS.out (j : Int))
      obtain ⟨s, hse⟩ : ∃ s, (rd_T53 l (j : Int)).f0 = s := ⟨_, rfl⟩
      obtain ⟨kd, hke⟩ : ∃ k, (rd_T53 l (j : Int)).f1 = k := ⟨_, rfl⟩
      rw [hse] at h0 HT2 HNM HSZ
      rw [hke] at h1 HT2
      have HKL := Aside0.mk (show (nms (l.take j)).length < 100 from by unfold nms; rw [List.length_reverse, List.length_map, List.length_take]; have := HN.out; have := H8.out; omega)
      obtain ⟨ks, hks⟩ : ∃ ks, nms (l.take j) = ks := ⟨_, rfl⟩
      rw [hks] at HM HT2 HNM HKL
      clear hj hlt hse hke HT hks
      have HBA := Aside0.mk (below_alloc HB.out (.cells #[.string s, .int .i64 kd] 53))
      have HX := Aside0.mk (heap_alloc_new wr (.cells #[.string s, .int .i64 kd] 53))
      have HM1 := Aside0.mk (HM.out.below (below_alloc (Below.refl wr.heap.size wr) (.cells #[.string s, .int .i64 kd] 53)))
      have HLT0 := Aside0.mk HM.out.lt
      by_cases h32 : 32 < s.size
      · have q1 : decide ((32 : Int) < (s.size : Int)) = true := decide_eq_true (by omega)
        have q2 : decide (32 < s.size) = true := decide_eq_true h32
        have hr : r = 7 := by rw [← HT2.out, if_pos h32]
        subst hr
        clear h32
        go_wp2
        go_ret
        exact ⟨rfl, HBA.out⟩
      have q1 : decide ((32 : Int) < (s.size : Int)) = false := decide_eq_false (by omega)
      have q2 : decide (32 < s.size) = false := decide_eq_false h32
      have HR3 := Aside0.mk ((if_neg h32).symm.trans HT2.out)
      clear h32 HT2
      go_wp2_with fail
      refine (take_calls HM1.out HKL.out s HSZ.out).mono ?_
      rintro e w2 ⟨rfl, hm, hb⟩
      have HX2 := Aside0.mk ((hb.block wr.heap.size (by simp) (by have := HLT0.out; omega)).trans HX.out)
      have HB2 := Aside0.mk (HBA.out.trans (hb.below w.heap.size (Nat.le_refl _) HBA.out.size))
      have HM2 := Aside0.mk hm
      clear hm hb HM1 HBA HX
      cases hf : fine ks s
      · have hr : r = 2 := by rw [← HR3.out, if_pos hf]
        subst hr
        clear hf HR3
        go_wp2
        go_ret
        exact ⟨rfl, HB2.out⟩
      have HR4 := Aside0.mk ((if_neg (by rw [hf]; simp)).symm.trans HR3.out)
      have f1 : w2.cell? ⟨wr.heap.size, 1, none⟩ = some (.int .i64 kd) := (blk_cell HX2.out 1).trans rfl
      have HKC := Aside0.mk (kindly_calls kd w2 (HNW.out.below HB2.out))
      clear hf HR3
      by_cases hk : 0 ≤ kd ∧ kd < 6
      · rw [decide_eq_true hk] at HKC
        have HR5 := Aside0.mk ((if_neg (not_not_intro hk)).symm.trans HR4.out)
        clear hk HR4
        go_wp2_with fail
        clear f1
        refine (HKC.out).mono ?_
        rintro e w3 ⟨rfl, hb⟩
        have HB3 := Aside0.mk (below_step HB2.out hb)
        have HM3 := Aside0.mk (HM2.out.below hb)
        clear hb HM2 HB2 HKC HX2
        go_wp2_with fail
        go_roundw
        case rel => exact ⟨j + 1, HLT.out, by go_num, ⟨by rw [HNM.out]; exact HM3.out⟩, ⟨by rw [HNM.out]; exact HR5.out⟩, ⟨HB3.out⟩⟩
        case measure => have := HLT.out; simp [intOf]; omega
      · rw [decide_eq_false hk] at HKC
        have hr : r = 10 := by rw [← HR4.out, if_pos hk]
        subst hr
        clear hk HR4
        go_wp2_with fail
        clear f1
        refine (HKC.out).mono ?_
        rintro e w3 ⟨rfl, hb⟩
        have hfin := below_step HB2.out hb
        go_wp2
        go_ret
        exact ⟨rfl, hfin⟩
    · have u1 : decide ((j : Int) < (n : Int)) = false := decide_eq_false (by omega)
      have u2 : decide (j < n) = false := decide_eq_false hlt
      have hr : r = 0 := by rw [← HT.out, List.drop_eq_nil_of_le (by have := HN.out; omega)]; rfl
      subst hr
      clear hj hlt HT HM
      go_wp2
      go_ret
      exact ⟨rfl, HB.out⟩
end Go.Proofs.YtciolchdihlgfaaDoor.Sc
/-! Schema: Write. -/
namespace Go.Proofs.YtciolchdihlgfaaDoor.Sc
open Go.RowKit Go.Proofs.YtciolchdihlgfaaDoorW.PrintWords Go.Proofs.YtciolchdihlgfaaDoorW.PrintLast Go.Proofs.YtciolchdihlgfaaDoorW.PrintMore Go.Proofs.YtciolchdihlgfaaDoor.Wire Go.Proofs.YtciolchdihlgfaaDoor.PSc Go.Proofs.YtciolchdihlgfaaDoor.Co Go.Proofs.YtciolchdihlgfaaDoor.Ce Go.Maps Go.WideMaps
set_option linter.unusedVariables false
set_option linter.unusedSimpArgs false
set_option maxRecDepth 100000
theorem infoB : (Tryd.prog.info? 5).map (fun i => (i.zero, i.size, i.bytes)) = some (some (.int .u8 0), 1, 1) := by kernel_rfl
theorem uint_calls (x : Int) (h0 : 0 ≤ x) (h1 : x < 18446744073709551616) (w : World) : Calls Tryd.prog 34 #[.int .u64 x] w fun e w' => ∃ v : Value, e = .returned v ∧ Kd.R (Kd.int .u8) 5 w' w.heap.size (fun _ => True) v (uv x.toNat) ∧ Below w.heap.size w w' := by
  obtain ⟨n, rfl⟩ := Int.eq_ofNat_of_zero_le h0
  rw [Int.toNat_natCast]
  exact wire_Uint.calls 12 _ _ w (ScG.uint n (by omega) 12 (by decide))
theorem wbytes_calls {A : Option Addr} {c n : Nat} {l : List Int} (hn : l.length = n) (hl : l.length ≤ 140737488351232) (hc : l.length ≤ c) (w : World) (hr : Kd.C (Kd.int .u8) w A l.length l) : Calls Tryd.prog 35 #[.slice A n c] w fun e w' => ∃ v : Value, e = .returned v ∧ Kd.R (Kd.int .u8) 5 w' w.heap.size (fun _ => True) v (uv l.length ++ l) ∧ Below w.heap.size w w' := by
  subst hn
  exact wire_Bytes.calls 12 A c l _ w hr hc (ScG.putBytes l hl 12 (by decide))
/-- A column's bytes. -/
def wcol (c : Col) : List Int := uv c.f0.size ++ bytesOf c.f0 ++ [c.f1 % 256]
def wcs (l : List Col) : List Int := l.flatMap wcol
/-- The bytes of columns that may be. -/
def wS (l : List Col) : List Int := uv l.length ++ wcs l
theorem wcs_take {l : List Col} {j : Nat} (h : j < l.length) : wcs (l.take (j + 1)) = wcs (l.take j) ++ wcol (rd_T53 l (j : Int)) := by
  unfold wcs
  have e : rd_T53 l (j : Int) = l[j] := by
    unfold rd_T53
    rw [Int.toNat_natCast, List.getD_eq_getElem?_getD, List.getElem?_eq_getElem h]; rfl
  rw [List.take_add_one, List.getElem?_eq_getElem h, List.flatMap_append, e]
  simp
theorem lit1 {w : World} {g : Nat} {k : IntKind} {z : Int} {t : TypeId} (h : w.heap[g]? = some (.cells #[.int k z] t (0, 0))) : Kd.C (Kd.int k) w (some ⟨g, 0, none⟩) 1 [z] := by
  refine Kd.C_of_reads (d := (0 : Int)) (h1 := fun _ => rfl) ⟨rfl, by omega, fun _ => ⟨_, rfl, fun j hj => ?_⟩⟩
  obtain rfl : j = 0 := by omega
  rw [add_plain, blk_cell h]
  rfl
theorem usz_small {n : Nat} (h : n < 128) : (uv n).length = 1 := by
  have : usz n = 1 := by
    unfold usz
    rw [uv, if_pos h]; rfl
  unfold usz at this
  exact this
theorem scan_small : ∀ (l : List Col) (ks : List ByteArray), scan ks l = 0 → ∀ c ∈ l, c.f0.size ≤ 32 ∧ (0 ≤ c.f1 ∧ c.f1 < 6)
  | [], _, _, c, hc => by cases hc
  | a :: r, ks, h, c, hc => by
    rw [scan] at h
    by_cases h1 : 32 < a.f0.size
    · rw [if_pos h1] at h; omega
    rw [if_neg h1] at h
    by_cases h2 : fine ks a.f0 = false
    · rw [if_pos h2] at h; omega
    rw [if_neg h2] at h
    by_cases h3 : ¬(0 ≤ a.f1 ∧ a.f1 < 6)
    · rw [if_pos h3] at h; omega
    rw [if_neg h3] at h
    rcases List.mem_cons.1 hc with rfl | hc
    · exact ⟨by omega, Decidable.not_not.1 h3⟩
    · exact scan_small r _ h c hc
theorem sck_small {l : List Col} (h : sck l = 0) : (0 < l.length ∧ l.length ≤ 8) ∧ ∀ c ∈ l, c.f0.size ≤ 32 ∧ (0 ≤ c.f1 ∧ c.f1 < 6) := by
  unfold sck at h
  by_cases h1 : l.length = 0
  · rw [if_pos h1] at h; omega
  rw [if_neg h1] at h
  by_cases h2 : 8 < l.length
  · rw [if_pos h2] at h; omega
  rw [if_neg h2] at h
  exact ⟨by omega, scan_small l [] h⟩
theorem rd_mem {l : List Col} {j : Nat} (h : j < l.length) : rd_T53 l (j : Int) ∈ l := by
  have e : rd_T53 l (j : Int) = l[j] := by
    unfold rd_T53
    rw [Int.toNat_natCast, List.getD_eq_getElem?_getD, List.getElem?_eq_getElem h]; rfl
  rw [e]; exact List.getElem_mem h
theorem wcs_len {l : List Col} (h : ∀ c ∈ l, c.f0.size ≤ 32) : (wcs l).length ≤ 34 * l.length := by
  induction l with
  | nil => simp [wcs]
  | cons a r ih =>
    have h1 := h a (List.mem_cons_self ..)
    have := ih (fun c hc => h c (List.mem_cons_of_mem _ hc))
    unfold wcs at this ⊢
    rw [List.flatMap_cons, List.length_append, List.length_cons]
    have e : (wcol a).length ≤ 34 := by
      unfold wcol
      rw [List.length_append, List.length_append, usz_small (by omega), bytesOf_length]
      simp; omega
    omega
set_option maxHeartbeats 16000000 in
theorem swrite_calls {A : Option Addr} {c : Nat} {l : List Col} (w : World) (hN : NamesW w) (hr : Kd.C k53 w A l.length l) (hc : l.length ≤ c) (hs : ∀ i, (rd_T53 l i).f0.size ≤ 9223372036854775807) :
    Calls Tryd.prog 12 #[.slice A l.length c] w fun e w' => ∃ v, e = .returned (.tuple #[v, .int .i64 (sck l)]) ∧ Kd.R (Kd.int .u8) 5 w' w.heap.size (fun _ => True) v (if sck l = 0 then wS l else []) ∧ Below w.heap.size w w' := by
  have HCK := Aside0.mk (scheck_calls w hN hr hc hs)
  have HR := Aside0.mk hr
  obtain ⟨k, hk⟩ : ∃ k, sck l = k := ⟨_, rfl⟩
  rw [hk] at HCK ⊢
  by_cases h0 : k ≠ 0
  · have t1 : (k != 0) = true := bne_iff_ne.mpr h0
    rw [if_neg h0]
    clear hN hr hc hs hk h0 HR
    go_enter Tryd.func12, Tryd.ntmps12
    go_wp2_with fail
    refine HCK.out.mono ?_
    rintro e w1 ⟨rfl, hb⟩
    have HB := Aside0.mk hb
    clear hb HCK
    go_wp2_with fail
    go_ret2
    exact ⟨_, rfl, Kd.R_nil _ _ _ _ _, HB.out⟩
  have hk0 : k = 0 := Decidable.not_not.1 h0
  subst hk0
  rw [if_pos rfl]
  obtain ⟨⟨hn0, hn8⟩, hall⟩ := sck_small hk
  have HALL := Aside0.mk hall
  have HN8 := Aside0.mk hn8
  obtain ⟨n, hn⟩ : ∃ n, l.length = n := ⟨_, rfl⟩
  have HN := Aside0.mk hn
  have HU := Aside0.mk (fun W => uint_calls (n : Int) (by omega) (by omega) W)
  rw [Int.toNat_natCast] at HU
  rw [hn] at HCK ⊢
  have wn : IntKind.u64.wrap (n : Int) = (n : Int) := by rw [IntKind.wrap_u64]; omega
  have HWN := Aside0.mk wn
  clear hN hr hc hs hk h0 hn hn0 hn8 hall
  go_enter Tryd.func12, Tryd.ntmps12
  go_wp2_with fail
  refine HCK.out.mono ?_
  rintro e w1 ⟨rfl, hb⟩
  have HB := Aside0.mk hb
  clear hb HCK
  go_wp2_with fail
  clear wn
  refine (HU.out _).mono ?_
  rintro e w2 ⟨v2, rfl, hv, hb⟩
  have HO := Aside0.mk (Kd.R_lower hv HB.out.size)
  replace HB := Aside0.mk (below_step HB.out hb)
  clear hv hb HU
  go_wp2_with fail
  go_loopw [5, 7, 19] (fun v u i wr => ∃ j : Nat, j ≤ n ∧ i = .int .i64 (j : Int) ∧ Aside0 (Kd.R (Kd.int .u8) 5 wr w.heap.size (fun _ => True) v (uv n ++ wcs (l.take j))) ∧ Aside0 (Below w.heap.size w wr)) (fun _ _ i _ => n - (intOf i).toNat)
  case atStart => exact ⟨0, by omega, rfl, ⟨by rw [List.take_zero, show wcs [] = [] from rfl, List.append_nil]; exact HO.out⟩, ⟨HB.out⟩⟩
  case round =>
    clear HO HB
    obtain ⟨j, hj, rfl, HO, HB⟩ := hrel
    obtain ⟨A5, c5, rfl⟩ := Kd.R_slice HO.out
    by_cases hlt : j < n
    · have u1 : decide ((j : Int) < (n : Int)) = true := decide_eq_true (by omega)
      have u2 : decide (j < n) = true := decide_eq_true hlt
      have HLT := Aside0.mk hlt
      obtain ⟨ad, e, h0, h1⟩ := at_T53 (Kd.C_below HR.out HB.out) (j : Int) (by omega) (by have := HN.out; omega)
      cases e
      rw [Int.toNat_natCast] at h0 h1
      have p1 : (0 ≤ (j : Int)) = True := eq_true (by omega)
      have p2 : ((j : Int) < (n : Int)) = True := eq_true (by omega)
      have hmax : (j : Int) + 1 ≤ 9223372036854775807 := by have := HN8.out; have := HN.out; omega
      have HTX := Aside0.mk (wcs_take (l := l) (j := j) (by have := HN.out; omega))
      have HSM := Aside0.mk (HALL.out _ (rd_mem (l := l) (j := j) (by have := HN.out; omega)))
      have HPL := Aside0.mk (show (uv n ++ wcs (l.take j)).length ≤ 300 from by
        rw [List.length_append, usz_small (by have := HN8.out; have := HN.out; omega)]
        have h2 := wcs_len (l := l.take j) (fun c hc => (HALL.out c (List.mem_of_mem_take hc)).1)
        rw [List.length_take] at h2
        have := HN8.out; omega)
      unfold wcol at HTX
      obtain ⟨s, hse⟩ : ∃ s, (rd_T53 l (j : Int)).f0 = s := ⟨_, rfl⟩
      obtain ⟨kd, hke⟩ : ∃ k, (rd_T53 l (j : Int)).f1 = k := ⟨_, rfl⟩
      rw [hse] at h0 HTX HSM
      rw [hke] at h1 HTX HSM
      obtain ⟨pre, hpre⟩ : ∃ pre, uv n ++ wcs (l.take j) = pre := ⟨_, rfl⟩
      rw [hpre] at HO HPL ⊢
      have HPRE := Aside0.mk hpre
      have wk : IntKind.u8.wrap kd = kd % 256 := IntKind.wrap_u8 kd
      rw [← wk] at HTX
      clear hj hlt hse hke hpre wk
      go_wp2_with fail
      have hx0 := heap_alloc_new wr (.cells #[.string s, .int .i64 kd] 53)
      have hbA := below_drew1 (below_alloc (Below.refl wr.heap.size wr) (.cells #[.string s, .int .i64 kd] 53))
      have BX := Aside0.mk (show (wr.alloc (.cells #[.string s, .int .i64 kd] 53)).drew.heap[wr.heap.size]? = some (.cells #[.string s, .int .i64 kd] 53 (0, 0)) from hx0)
      replace HO := Aside0.mk (Kd.R_below HO.out hbA)
      have HG := Aside0.mk HB.out.size
      replace HB := Aside0.mk (below_step HB.out hbA)
      obtain ⟨P, hP⟩ : ∃ P, uv (bytesOf s).length ++ bytesOf s = P := ⟨_, rfl⟩
      have HWB := Aside0.mk (fun (A : Option Addr) (c : Nat) (hc : s.size ≤ c) (W : World) (hcr : Kd.C (Kd.int .u8) W A (bytesOf s).length (bytesOf s)) => wbytes_calls (A := A) (c := c) (n := s.size) (bytesOf_length s) (by rw [bytesOf_length]; have := HSM.out; omega) (by rw [bytesOf_length]; exact hc) W hcr)
      rw [hP] at HWB
      have HPS := Aside0.mk (show P.length ≤ 40 from by rw [← hP, List.length_append, usz_small (by rw [bytesOf_length]; have := HSM.out; omega), bytesOf_length]; have := HSM.out; omega)
      have HPP := Aside0.mk (show uv s.size ++ bytesOf s = P from by rw [← hP, bytesOf_length])
      clear hx0 hbA h0 h1 hP
      refine start_ (n := 12) (S := fun w' => w'.cell? ⟨wr.heap.size, 0, none⟩ = some (.string s) ∧ w'.cell? ⟨wr.heap.size, 1, none⟩ = some (.int .i64 kd)) (ds := []) #[false, false, false, false, false, false, false, false, false, false, false, false] (by kernel_rfl) rfl rfl ⟨(blk_cell BX.out 0).trans rfl, (blk_cell BX.out 1).trans rfl⟩ (fun hHeld => ?_)
      generalize (wr.alloc (.cells #[.string s, .int .i64 kd] 53)).drew = W at *
      refine pure_ (i := 0) (N := some 23) (v := ?_) (a' := ?_) #[true, false, false, false, false, false, false, false, false, false, false, false] rfl rfl (any_of rfl (by kernel_rfl)) (fun _ _ _ h => h) (Or.inl ⟨by rfl, ?_⟩) ?_ ?_
      rotate_left
      · intro w'
        go_simp
        with_reducible rfl
      rotate_left
      · simp only [Act.put, List.setIfInBounds_toArray, List.set_cons_zero, List.set_cons_succ, i64_w, i32_w]
        rfl
      refine pure_ (i := 1) (N := some 24) (v := ?_) (a' := ?_) #[true, true, false, false, false, false, false, false, false, false, false, false] rfl rfl (any_of rfl (by kernel_rfl)) (fun _ _ _ h => h) (Or.inl ⟨by rfl, ?_⟩) ?_ ?_
      rotate_left
      · intro w'
        go_simp
        with_reducible rfl
      rotate_left
      · simp only [Act.put, List.setIfInBounds_toArray, List.set_cons_zero, List.set_cons_succ, i64_w, i32_w]
        rfl
      refine pure_ (i := 6) (N := some 29) (v := ?_) (a' := ?_) #[true, true, false, false, false, false, true, false, false, false, false, false] rfl rfl (any_of rfl (by kernel_rfl)) (fun _ _ _ h => h) (Or.inl ⟨by rfl, ?_⟩) ?_ ?_
      rotate_left
      · intro w'
        go_simp
        with_reducible rfl
      rotate_left
      · simp only [Act.put, List.setIfInBounds_toArray, List.set_cons_zero, List.set_cons_succ, i64_w, i32_w]
        rfl
      refine take_ (i := 2) (N := some 25) (v := ?_) (a' := ?_) #[true, true, true, false, false, false, true, false, false, false, false, false] rfl rfl (take_of rfl (by kernel_rfl)) (fun _ _ _ h => h) (Or.inl ⟨by rfl, ?_⟩) hHeld ?_ ?_
      rotate_left
      · rintro w' ⟨s0, s1⟩
        go_simp
        with_reducible rfl
      rotate_left
      · simp only [Act.put, List.setIfInBounds_toArray, List.set_cons_zero, List.set_cons_succ, i64_w, i32_w]
        rfl
      refine take_ (i := 7) (N := some 30) (v := ?_) (a' := ?_) #[true, true, true, false, false, false, true, true, false, false, false, false] rfl rfl (take_of rfl (by kernel_rfl)) (fun _ _ _ h => h) (Or.inl ⟨by rfl, ?_⟩) hHeld ?_ ?_
      rotate_left
      · rintro w' ⟨s0, s1⟩
        go_simp
        with_reducible rfl
      rotate_left
      · simp only [Act.put, List.setIfInBounds_toArray, List.set_cons_zero, List.set_cons_succ, i64_w, i32_w]
        rfl
      refine pure_ (i := 8) (N := some 31) (v := ?_) (a' := ?_) #[true, true, true, false, false, false, true, true, true, false, false, false] rfl rfl (any_of rfl (by kernel_rfl)) (fun _ _ _ h => h) (Or.inl ⟨by rfl, ?_⟩) ?_ ?_
      rotate_left
      · intro w'
        go_simp
        with_reducible rfl
      rotate_left
      · simp only [Act.put, List.setIfInBounds_toArray, List.set_cons_zero, List.set_cons_succ, i64_w, i32_w]
        rfl
      refine join_ (σ := Value × Value × Value × Nat) 2 #[true, true, true, true, true, true, true, true, true, true, false, false] (fun q => [(26, q.1), (27, q.2.1), (28, q.2.2.1), (32, .slice (some ⟨q.2.2.2, 0, none⟩) 1 1)]) (fun q w' => Kd.R (Kd.int .u8) 5 w' w.heap.size (fun _ => True) q.2.2.1 (pre ++ P) ∧ w'.heap[q.2.2.2]? = some (.cells #[.int .u8 (IntKind.u8.wrap kd)] 5 (0, 0)) ∧ Below w.heap.size w w' ∧ w'.heap[wr.heap.size]? = some (.cells #[.string s, .int .i64 kd] 53 (0, 0))) ?_ (fun hcont => ?_)
      rotate_left
      · refine two_ (i := 3) (j := 9) (Ni := some 26) (Nj := some 32) #[true, true, true, true, false, false, true, true, true, false, false, false] #[true, true, true, false, false, false, true, true, true, true, false, false] rfl rfl rfl rfl (two_of rfl (by kernel_rfl)) (by decide) (by decide) (fun K hK => ?_) (fun K hK => ?_)
        · refine value_ (v := .slice (some ⟨W.heap.size, 0, none⟩) s.size (grownCap W s.size 0 5)) (w1 := Lib.bytesWorld W 5 s) (by rfl) rfl (by have kc := print_bytes (P := Tryd.prog) 9 22 5 Tryd.underlying9 Tryd.underlying22 Tryd.underlying5 s W; go_simp) ?_
          have hb := bytes_below (Below.refl W.heap.size W) (Nat.le_refl _) 5 s
          have hcr : Kd.C (Kd.int .u8) (Lib.bytesWorld W 5 s) (some ⟨W.heap.size, 0, none⟩) (bytesOf s).length (bytesOf s) := by rw [bytesOf_length]; exact Kd.C_of_reads (d := (0 : Int)) (h1 := fun _ => rfl) (bytes_reads W 5 s (by have := HSM.out; omega))
          have hcap : s.size ≤ grownCap W s.size 0 5 := grownCap_ge _ _ _ _
          obtain ⟨c6, hc6⟩ : ∃ c6, grownCap W s.size 0 5 = c6 := ⟨_, rfl⟩
          rw [hc6] at hcap ⊢
          obtain ⟨V1, hV⟩ : ∃ V, Lib.bytesWorld W 5 s = V := ⟨_, rfl⟩
          rw [hV] at hb hcr ⊢
          have HC3 := Aside0.mk hcr
          have HCAP := Aside0.mk hcap
          clear hcr hcap hc6 hV
          replace HO := Aside0.mk (Kd.R_below HO.out hb)
          replace HB := Aside0.mk (below_step HB.out hb)
          replace BX := Aside0.mk (blk_below BX.out hb)
          clear hb
          refine hK.out _ _ ⟨(blk_cell BX.out 0).trans rfl, (blk_cell BX.out 1).trans rfl⟩ (fun _ => ?_)
          clear hK K
          refine norm_ (a' := ?_) ?_ ?_
          rotate_left
          · show Act.put _ (some 26) _ = _
            simp only [Act.put, List.setIfInBounds_toArray, List.set_cons_zero, List.set_cons_succ, i64_w, i32_w]
            rfl
          refine two_ (i := 4) (j := 9) (Ni := some 27) (Nj := some 32) #[true, true, true, true, true, false, true, true, true, false, false, false] #[true, true, true, true, false, false, true, true, true, true, false, false] rfl rfl rfl rfl (two_of rfl (by kernel_rfl)) (by decide) (by decide) (fun K hK => ?_) (fun K hK => ?_)
          · refine goes_ Tryd.func35 (by kernel_rfl) rfl #[.slice (some ⟨W.heap.size, 0, none⟩) s.size c6] (by rfl) rfl rfl (by (try simp only [List.map_toArray, List.map_cons, List.map_nil]); rfl) ?_
            refine (HWB.out _ c6 HCAP.out _ HC3.out).mono ?_
            rintro e V2 ⟨v7, rfl, hv, hb⟩
            refine ⟨_, rfl, ?_⟩
            obtain ⟨A7, c7, rfl⟩ := Kd.R_slice hv
            have HV := Aside0.mk hv
            replace HO := Aside0.mk (Kd.R_below HO.out hb)
            replace HB := Aside0.mk (below_step HB.out hb)
            replace BX := Aside0.mk (blk_below BX.out hb)
            clear hb hv HC3
            refine hK.out _ _ ⟨(blk_cell BX.out 0).trans rfl, (blk_cell BX.out 1).trans rfl⟩ (fun _ => ?_)
            clear hK K
            refine norm_ (a' := ?_) ?_ ?_
            rotate_left
            · show Act.put _ (some 27) _ = _
              simp only [Act.put, List.setIfInBounds_toArray, List.set_cons_zero, List.set_cons_succ, i64_w, i32_w]
              rfl
            refine two_ (i := 5) (j := 9) (Ni := some 28) (Nj := some 32) #[true, true, true, true, true, true, true, true, true, false, false, false] #[true, true, true, true, true, false, true, true, true, true, false, false] rfl rfl rfl rfl (two_of rfl (by kernel_rfl)) (by decide) (by decide) (fun K hK => ?_) (fun K hK => ?_)
            · refine Kd.R_append_rows_step (Kd.int .u8) (w0 := w) w.heap.size (by rfl) (.tmp 23) (.tmp 27) 22 5 (.int .u8 0) 1 rfl Tryd.underlying22 infoB rfl (by decide) (by omega) _ pre P A7 _ c7 (fun _ => True) (fun _ => False) rfl rfl HO.out (Kd.R_reads' HV.out).2.2 (fun _ _ h => h) (fun _ h => h.elim) (fun _ _ => trivial) HB.out HB.out.size (by have := HPL.out; have := HPS.out; omega) ?_
              intro v8 V3 ho hb hg hat
              replace BX := Aside0.mk (blk_grown BX.out hg (Kd.R_ne HO.out BX.out (by decide)))
              replace HO := Aside0.mk ho
              replace HB := Aside0.mk hb
              clear ho hb hg hat HV
              refine hK.out _ _ ⟨(blk_cell BX.out 0).trans rfl, (blk_cell BX.out 1).trans rfl⟩ (fun _ => ?_)
              clear hK K
              refine norm_ (a' := ?_) ?_ ?_
              rotate_left
              · show Act.put _ (some 28) _ = _
                simp only [Act.put, List.setIfInBounds_toArray, List.set_cons_zero, List.set_cons_succ, i64_w, i32_w]
                rfl
              refine one_ (i := 9) (N := some 32) #[true, true, true, true, true, true, true, true, true, true, false, false] rfl rfl (one_of rfl (by kernel_rfl)) (by decide) (fun K hK => ?_)
              refine value_ (v := .slice (some ⟨V3.heap.size, 0, none⟩) 1 1) (w1 := V3.alloc (.cells #[.int .u8 (IntKind.u8.wrap kd)] 5)) (by rfl) rfl (by go_simp) ?_
              have HN9 := Aside0.mk (show ∀ v, v = v8 → some V3.heap.size ≠ v.ownBlock from fun v hv e => by subst hv; exact absurd (Kd.R_lt HO.out _ e.symm) (Nat.lt_irrefl _))
              replace HN9 := Aside0.mk (HN9.out _ rfl)
              have hb := below_alloc (Below.refl V3.heap.size V3) (.cells #[.int .u8 (IntKind.u8.wrap kd)] 5)
              have H9 := Aside0.mk (heap_alloc_new V3 (.cells #[.int .u8 (IntKind.u8.wrap kd)] 5))
              obtain ⟨V4, hV⟩ : ∃ V, V3.alloc (.cells #[.int .u8 (IntKind.u8.wrap kd)] 5) = V := ⟨_, rfl⟩
              rw [hV] at hb H9 ⊢
              clear hV
              replace HO := Aside0.mk (Kd.R_below HO.out hb)
              replace HB := Aside0.mk (below_step HB.out hb)
              replace BX := Aside0.mk (blk_below BX.out hb)
              clear hb
              refine hK.out _ _ ⟨(blk_cell BX.out 0).trans rfl, (blk_cell BX.out 1).trans rfl⟩ (fun _ => ?_)
              clear hK K
              exact hcont (.slice (some ⟨W.heap.size, 0, none⟩) s.size c6, .slice A7 P.length c7, v8, V3.heap.size) _ ⟨HO.out, H9.out, HB.out, BX.out⟩
            · refine value_ (v := .slice (some ⟨V2.heap.size, 0, none⟩) 1 1) (w1 := V2.alloc (.cells #[.int .u8 (IntKind.u8.wrap kd)] 5)) (by rfl) rfl (by go_simp) ?_
              have HN9 := Aside0.mk (show ∀ v, v = Value.slice A5 pre.length c5 → some V2.heap.size ≠ v.ownBlock from fun v hv e => by subst hv; exact absurd (Kd.R_lt HO.out _ e.symm) (Nat.lt_irrefl _))
              replace HN9 := Aside0.mk (HN9.out _ rfl)
              have hb := below_alloc (Below.refl V2.heap.size V2) (.cells #[.int .u8 (IntKind.u8.wrap kd)] 5)
              have H9 := Aside0.mk (heap_alloc_new V2 (.cells #[.int .u8 (IntKind.u8.wrap kd)] 5))
              obtain ⟨V3, hV⟩ : ∃ V, V2.alloc (.cells #[.int .u8 (IntKind.u8.wrap kd)] 5) = V := ⟨_, rfl⟩
              rw [hV] at hb H9 ⊢
              clear hV
              replace HO := Aside0.mk (Kd.R_below HO.out hb)
              replace HB := Aside0.mk (below_step HB.out hb)
              replace BX := Aside0.mk (blk_below BX.out hb)
              replace HV := Aside0.mk (Kd.R_below HV.out hb)
              clear hb
              refine hK.out _ _ ⟨(blk_cell BX.out 0).trans rfl, (blk_cell BX.out 1).trans rfl⟩ (fun _ => ?_)
              clear hK K
              refine norm_ (a' := ?_) ?_ ?_
              rotate_left
              · show Act.put _ (some 32) _ = _
                simp only [Act.put, List.setIfInBounds_toArray, List.set_cons_zero, List.set_cons_succ, i64_w, i32_w]
                rfl
              refine one_ (i := 5) (N := some 28) #[true, true, true, true, true, true, true, true, true, true, false, false] rfl rfl (one_of rfl (by kernel_rfl)) (by decide) (fun K hK => ?_)
              refine Kd.R_append_rows_step (Kd.int .u8) (w0 := w) w.heap.size (by rfl) (.tmp 23) (.tmp 27) 22 5 (.int .u8 0) 1 rfl Tryd.underlying22 infoB rfl (by decide) (by omega) _ pre P A7 _ c7 (fun _ => True) (fun _ => False) rfl rfl HO.out (Kd.R_reads' HV.out).2.2 (fun _ _ h => h) (fun _ h => h.elim) (fun _ _ => trivial) HB.out HB.out.size (by have := HPL.out; have := HPS.out; omega) ?_
              intro v8 V4 ho hb hg hat
              replace BX := Aside0.mk (blk_grown BX.out hg (Kd.R_ne HO.out BX.out (by decide)))
              replace H9 := Aside0.mk (blk_grown H9.out hg HN9.out)
              replace HO := Aside0.mk ho
              replace HB := Aside0.mk hb
              clear ho hb hg hat HV
              refine hK.out _ _ ⟨(blk_cell BX.out 0).trans rfl, (blk_cell BX.out 1).trans rfl⟩ (fun _ => ?_)
              clear hK K
              exact hcont (.slice (some ⟨W.heap.size, 0, none⟩) s.size c6, .slice A7 P.length c7, v8, V2.heap.size) _ ⟨HO.out, H9.out, HB.out, BX.out⟩
          · refine value_ (v := .slice (some ⟨V1.heap.size, 0, none⟩) 1 1) (w1 := V1.alloc (.cells #[.int .u8 (IntKind.u8.wrap kd)] 5)) (by rfl) rfl (by go_simp) ?_
            have HN9 := Aside0.mk (show ∀ v, v = Value.slice A5 pre.length c5 → some V1.heap.size ≠ v.ownBlock from fun v hv e => by subst hv; exact absurd (Kd.R_lt HO.out _ e.symm) (Nat.lt_irrefl _))
            replace HN9 := Aside0.mk (HN9.out _ rfl)
            have hb := below_alloc (Below.refl V1.heap.size V1) (.cells #[.int .u8 (IntKind.u8.wrap kd)] 5)
            have H9 := Aside0.mk (heap_alloc_new V1 (.cells #[.int .u8 (IntKind.u8.wrap kd)] 5))
            obtain ⟨V2, hV⟩ : ∃ V, V1.alloc (.cells #[.int .u8 (IntKind.u8.wrap kd)] 5) = V := ⟨_, rfl⟩
            rw [hV] at hb H9 ⊢
            clear hV
            replace HO := Aside0.mk (Kd.R_below HO.out hb)
            replace HB := Aside0.mk (below_step HB.out hb)
            replace BX := Aside0.mk (blk_below BX.out hb)
            replace HC3 := Aside0.mk (Kd.C_below HC3.out hb)
            clear hb
            refine hK.out _ _ ⟨(blk_cell BX.out 0).trans rfl, (blk_cell BX.out 1).trans rfl⟩ (fun _ => ?_)
            clear hK K
            refine norm_ (a' := ?_) ?_ ?_
            rotate_left
            · show Act.put _ (some 32) _ = _
              simp only [Act.put, List.setIfInBounds_toArray, List.set_cons_zero, List.set_cons_succ, i64_w, i32_w]
              rfl
            refine one_ (i := 4) (N := some 27) #[true, true, true, true, true, false, true, true, true, true, false, false] rfl rfl (one_of rfl (by kernel_rfl)) (by decide) (fun K hK => ?_)
            refine goes_ Tryd.func35 (by kernel_rfl) rfl #[.slice (some ⟨W.heap.size, 0, none⟩) s.size c6] (by rfl) rfl rfl (by (try simp only [List.map_toArray, List.map_cons, List.map_nil]); rfl) ?_
            refine (HWB.out _ c6 HCAP.out _ HC3.out).mono ?_
            rintro e V3 ⟨v7, rfl, hv, hb⟩
            refine ⟨_, rfl, ?_⟩
            obtain ⟨A7, c7, rfl⟩ := Kd.R_slice hv
            have HV := Aside0.mk hv
            replace HO := Aside0.mk (Kd.R_below HO.out hb)
            replace HB := Aside0.mk (below_step HB.out hb)
            replace BX := Aside0.mk (blk_below BX.out hb)
            replace H9 := Aside0.mk (blk_below H9.out hb)
            clear hb hv HC3
            refine hK.out _ _ ⟨(blk_cell BX.out 0).trans rfl, (blk_cell BX.out 1).trans rfl⟩ (fun _ => ?_)
            clear hK K
            refine norm_ (a' := ?_) ?_ ?_
            rotate_left
            · show Act.put _ (some 27) _ = _
              simp only [Act.put, List.setIfInBounds_toArray, List.set_cons_zero, List.set_cons_succ, i64_w, i32_w]
              rfl
            refine one_ (i := 5) (N := some 28) #[true, true, true, true, true, true, true, true, true, true, false, false] rfl rfl (one_of rfl (by kernel_rfl)) (by decide) (fun K hK => ?_)
            refine Kd.R_append_rows_step (Kd.int .u8) (w0 := w) w.heap.size (by rfl) (.tmp 23) (.tmp 27) 22 5 (.int .u8 0) 1 rfl Tryd.underlying22 infoB rfl (by decide) (by omega) _ pre P A7 _ c7 (fun _ => True) (fun _ => False) rfl rfl HO.out (Kd.R_reads' HV.out).2.2 (fun _ _ h => h) (fun _ h => h.elim) (fun _ _ => trivial) HB.out HB.out.size (by have := HPL.out; have := HPS.out; omega) ?_
            intro v8 V4 ho hb hg hat
            replace BX := Aside0.mk (blk_grown BX.out hg (Kd.R_ne HO.out BX.out (by decide)))
            replace H9 := Aside0.mk (blk_grown H9.out hg HN9.out)
            replace HO := Aside0.mk ho
            replace HB := Aside0.mk hb
            clear ho hb hg hat HV
            refine hK.out _ _ ⟨(blk_cell BX.out 0).trans rfl, (blk_cell BX.out 1).trans rfl⟩ (fun _ => ?_)
            clear hK K
            exact hcont (.slice (some ⟨W.heap.size, 0, none⟩) s.size c6, .slice A7 P.length c7, v8, V1.heap.size) _ ⟨HO.out, H9.out, HB.out, BX.out⟩
        · refine value_ (v := .slice (some ⟨W.heap.size, 0, none⟩) 1 1) (w1 := W.alloc (.cells #[.int .u8 (IntKind.u8.wrap kd)] 5)) (by rfl) rfl (by go_simp) ?_
          have HN9 := Aside0.mk (show ∀ v, v = Value.slice A5 pre.length c5 → some W.heap.size ≠ v.ownBlock from fun v hv e => by subst hv; exact absurd (Kd.R_lt HO.out _ e.symm) (Nat.lt_irrefl _))
          replace HN9 := Aside0.mk (HN9.out _ rfl)
          have hb := below_alloc (Below.refl W.heap.size W) (.cells #[.int .u8 (IntKind.u8.wrap kd)] 5)
          have H9 := Aside0.mk (heap_alloc_new W (.cells #[.int .u8 (IntKind.u8.wrap kd)] 5))
          obtain ⟨V1, hV⟩ : ∃ V, W.alloc (.cells #[.int .u8 (IntKind.u8.wrap kd)] 5) = V := ⟨_, rfl⟩
          rw [hV] at hb H9 ⊢
          clear hV
          replace HO := Aside0.mk (Kd.R_below HO.out hb)
          replace HB := Aside0.mk (below_step HB.out hb)
          replace BX := Aside0.mk (blk_below BX.out hb)
          clear hb
          refine hK.out _ _ ⟨(blk_cell BX.out 0).trans rfl, (blk_cell BX.out 1).trans rfl⟩ (fun _ => ?_)
          clear hK K
          refine norm_ (a' := ?_) ?_ ?_
          rotate_left
          · show Act.put _ (some 32) _ = _
            simp only [Act.put, List.setIfInBounds_toArray, List.set_cons_zero, List.set_cons_succ, i64_w, i32_w]
            rfl
          refine one_ (i := 3) (N := some 26) #[true, true, true, true, false, false, true, true, true, true, false, false] rfl rfl (one_of rfl (by kernel_rfl)) (by decide) (fun K hK => ?_)
          refine value_ (v := .slice (some ⟨V1.heap.size, 0, none⟩) s.size (grownCap V1 s.size 0 5)) (w1 := Lib.bytesWorld V1 5 s) (by rfl) rfl (by have kc := print_bytes (P := Tryd.prog) 9 22 5 Tryd.underlying9 Tryd.underlying22 Tryd.underlying5 s V1; go_simp) ?_
          have hb := bytes_below (Below.refl V1.heap.size V1) (Nat.le_refl _) 5 s
          have hcr : Kd.C (Kd.int .u8) (Lib.bytesWorld V1 5 s) (some ⟨V1.heap.size, 0, none⟩) (bytesOf s).length (bytesOf s) := by rw [bytesOf_length]; exact Kd.C_of_reads (d := (0 : Int)) (h1 := fun _ => rfl) (bytes_reads V1 5 s (by have := HSM.out; omega))
          have hcap : s.size ≤ grownCap V1 s.size 0 5 := grownCap_ge _ _ _ _
          obtain ⟨c6, hc6⟩ : ∃ c6, grownCap V1 s.size 0 5 = c6 := ⟨_, rfl⟩
          rw [hc6] at hcap ⊢
          obtain ⟨V2, hV⟩ : ∃ V, Lib.bytesWorld V1 5 s = V := ⟨_, rfl⟩
          rw [hV] at hb hcr ⊢
          have HC3 := Aside0.mk hcr
          have HCAP := Aside0.mk hcap
          clear hcr hcap hc6 hV
          replace HO := Aside0.mk (Kd.R_below HO.out hb)
          replace HB := Aside0.mk (below_step HB.out hb)
          replace BX := Aside0.mk (blk_below BX.out hb)
          replace H9 := Aside0.mk (blk_below H9.out hb)
          clear hb
          refine hK.out _ _ ⟨(blk_cell BX.out 0).trans rfl, (blk_cell BX.out 1).trans rfl⟩ (fun _ => ?_)
          clear hK K
          refine norm_ (a' := ?_) ?_ ?_
          rotate_left
          · show Act.put _ (some 26) _ = _
            simp only [Act.put, List.setIfInBounds_toArray, List.set_cons_zero, List.set_cons_succ, i64_w, i32_w]
            rfl
          refine one_ (i := 4) (N := some 27) #[true, true, true, true, true, false, true, true, true, true, false, false] rfl rfl (one_of rfl (by kernel_rfl)) (by decide) (fun K hK => ?_)
          refine goes_ Tryd.func35 (by kernel_rfl) rfl #[.slice (some ⟨V1.heap.size, 0, none⟩) s.size c6] (by rfl) rfl rfl (by (try simp only [List.map_toArray, List.map_cons, List.map_nil]); rfl) ?_
          refine (HWB.out _ c6 HCAP.out _ HC3.out).mono ?_
          rintro e V3 ⟨v7, rfl, hv, hb⟩
          refine ⟨_, rfl, ?_⟩
          obtain ⟨A7, c7, rfl⟩ := Kd.R_slice hv
          have HV := Aside0.mk hv
          replace HO := Aside0.mk (Kd.R_below HO.out hb)
          replace HB := Aside0.mk (below_step HB.out hb)
          replace BX := Aside0.mk (blk_below BX.out hb)
          replace H9 := Aside0.mk (blk_below H9.out hb)
          clear hb hv HC3
          refine hK.out _ _ ⟨(blk_cell BX.out 0).trans rfl, (blk_cell BX.out 1).trans rfl⟩ (fun _ => ?_)
          clear hK K
          refine norm_ (a' := ?_) ?_ ?_
          rotate_left
          · show Act.put _ (some 27) _ = _
            simp only [Act.put, List.setIfInBounds_toArray, List.set_cons_zero, List.set_cons_succ, i64_w, i32_w]
            rfl
          refine one_ (i := 5) (N := some 28) #[true, true, true, true, true, true, true, true, true, true, false, false] rfl rfl (one_of rfl (by kernel_rfl)) (by decide) (fun K hK => ?_)
          refine Kd.R_append_rows_step (Kd.int .u8) (w0 := w) w.heap.size (by rfl) (.tmp 23) (.tmp 27) 22 5 (.int .u8 0) 1 rfl Tryd.underlying22 infoB rfl (by decide) (by omega) _ pre P A7 _ c7 (fun _ => True) (fun _ => False) rfl rfl HO.out (Kd.R_reads' HV.out).2.2 (fun _ _ h => h) (fun _ h => h.elim) (fun _ _ => trivial) HB.out HB.out.size (by have := HPL.out; have := HPS.out; omega) ?_
          intro v8 V4 ho hb hg hat
          replace BX := Aside0.mk (blk_grown BX.out hg (Kd.R_ne HO.out BX.out (by decide)))
          replace H9 := Aside0.mk (blk_grown H9.out hg HN9.out)
          replace HO := Aside0.mk ho
          replace HB := Aside0.mk hb
          clear ho hb hg hat HV
          refine hK.out _ _ ⟨(blk_cell BX.out 0).trans rfl, (blk_cell BX.out 1).trans rfl⟩ (fun _ => ?_)
          clear hK K
          exact hcont (.slice (some ⟨V1.heap.size, 0, none⟩) s.size c6, .slice A7 P.length c7, v8, W.heap.size) _ ⟨HO.out, H9.out, HB.out, BX.out⟩
      rintro ⟨v26, v27, v28, gb⟩ U ⟨hO, h9, hB, hS⟩
      dsimp only at hO h9
      replace HO := Aside0.mk hO
      replace HB := Aside0.mk hB
      have H9 := Aside0.mk h9
      replace BX := Aside0.mk hS
      clear hO h9 hB hS
      refine norm_ (a' := ?_) ?_ ?_
      rotate_left
      · simp only [putAll, Act.put, List.setIfInBounds_toArray, List.set_cons_zero, List.set_cons_succ]
        rfl
      refine one_ (i := 10) (N := some 33) #[true, true, true, true, true, true, true, true, true, true, true, false] rfl rfl (one_of rfl (by kernel_rfl)) (by decide) (fun K hK => ?_)
      refine Kd.R_append_rows_step (Kd.int .u8) (w0 := w) w.heap.size (by rfl) (.tmp 28) (.tmp 32) 22 5 (.int .u8 0) 1 rfl Tryd.underlying22 infoB rfl (by decide) (by omega) _ (pre ++ P) [IntKind.u8.wrap kd] (some ⟨gb, 0, none⟩) 1 1 (fun _ => True) (fun _ => False) rfl rfl HO.out (lit1 H9.out) (fun _ _ h => h) (fun _ h => h.elim) (fun _ _ => trivial) HB.out HB.out.size (by rw [List.length_append]; have := HPL.out; have := HPS.out; omega) ?_
      intro v9 U9 ho hb hg hat
      replace BX := Aside0.mk (blk_grown BX.out hg (Kd.R_ne HO.out BX.out (by decide)))
      refine hK.out _ _ ⟨(blk_cell BX.out 0).trans rfl, (blk_cell BX.out 1).trans rfl⟩ (fun _ => ?_)
      clear hK K
      refine norm_ (a' := ?_) ?_ ?_
      rotate_left
      · show Act.put _ (some 33) _ = _
        simp only [Act.put, List.setIfInBounds_toArray, List.set_cons_zero, List.set_cons_succ, i64_w, i32_w]
        rfl
      refine pure_ (i := 11) (N := some 5) (v := ?_) (a' := ?_) #[true, true, true, true, true, true, true, true, true, true, true, true] rfl rfl (any_of rfl (by kernel_rfl)) (fun _ _ _ h => h) (Or.inl ⟨by rfl, ?_⟩) ?_ ?_
      rotate_left
      · intro w'
        go_simp
        with_reducible rfl
      rotate_left
      · simp only [Act.put, List.setIfInBounds_toArray, List.set_cons_zero, List.set_cons_succ, i64_w, i32_w]
        rfl
      refine done_ (done_of rfl (by kernel_rfl)) ?_
      have HO3 := Aside0.mk ho
      have HB3 := Aside0.mk hb
      clear ho hb hg hat hHeld
      go_wp2_with fail
      go_roundw
      case rel => exact ⟨j + 1, HLT.out, by go_num, ⟨by rw [HTX.out, HPP.out, ← List.append_assoc, ← List.append_assoc, HPRE.out]; exact HO3.out⟩, ⟨HB3.out⟩⟩
      case measure => have := HLT.out; simp [intOf]; omega
    · have u1 : decide ((j : Int) < (n : Int)) = false := decide_eq_false (by omega)
      have u2 : decide (j < n) = false := decide_eq_false hlt
      have hfin : uv n ++ wcs (l.take j) = wS l := by rw [List.take_of_length_le (by have := HN.out; omega)]; unfold wS; rw [HN.out]
      rw [hfin] at HO ⊢
      clear hj hlt hfin
      go_wp2
      go_ret2
      exact ⟨_, rfl, HO.out, HB.out⟩
end Go.Proofs.YtciolchdihlgfaaDoor.Sc
/-! Schema: Print, Same. -/
namespace Go.Proofs.YtciolchdihlgfaaDoor.Sc
open Go.RowKit Go.Proofs.YtciolchdihlgfaaDoorW.PrintWords Go.Proofs.YtciolchdihlgfaaDoorW.PrintLast Go.Proofs.YtciolchdihlgfaaDoorW.PrintMore Go.Proofs.YtciolchdihlgfaaDoor.Wire Go.Proofs.YtciolchdihlgfaaDoor.PSc Go.Proofs.YtciolchdihlgfaaDoor.Co Go.Proofs.YtciolchdihlgfaaDoor.Ce Go.Maps Go.WideMaps
set_option linter.unusedVariables false
set_option linter.unusedSimpArgs false
set_option maxRecDepth 100000
theorem wcs_bytes {l : List Col} : Bytes (wcs l) := by
  intro x hx
  unfold wcs at hx
  obtain ⟨a, -, ha⟩ := List.mem_flatMap.1 hx
  unfold wcol at ha
  rcases List.mem_append.1 ha with ha | ha
  · rcases List.mem_append.1 ha with ha | ha
    · exact uv_range _ x ha
    · unfold bytesOf at ha
      obtain ⟨b, -, rfl⟩ := List.mem_map.1 ha
      have := b.toNat_lt
      omega
  · simp only [List.mem_singleton] at ha
    omega
theorem wS_bytes {l : List Col} : Bytes (wS l) := by
  intro x hx
  rcases List.mem_append.1 hx with hx | hx
  · exact uv_range _ x hx
  · exact wcs_bytes x hx
/-- Are two columns the same? -/
def colEq (x y : Col) : Bool := (x.f0.data.toList == y.f0.data.toList) && (x.f1 == y.f1)
def eqs : List Col → List Col → Bool
  | [], [] => true
  | x :: l, y :: m => colEq x y && eqs l m
  | [], _ :: _ => false
  | _ :: _, [] => false
theorem colEq_iff (x y : Col) : colEq x y = true ↔ x = y := by
  unfold colEq
  rw [Bool.and_eq_true, beq_iff_eq, beq_iff_eq]
  constructor
  · rintro ⟨h1, h2⟩
    obtain ⟨a, b⟩ := x
    obtain ⟨a', b'⟩ := y
    have := data_inj h1
    simp only at this h2
    rw [this, h2]
  · rintro rfl; exact ⟨rfl, rfl⟩
theorem eqs_iff : ∀ l m : List Col, eqs l m = true ↔ l = m
  | [], [] => by simp [eqs]
  | x :: l, y :: m => by rw [eqs, Bool.and_eq_true, colEq_iff, eqs_iff l m, List.cons.injEq]
  | [], _ :: _ => by simp [eqs]
  | _ :: _, [] => by simp [eqs]
theorem eqs_drop {l m : List Col} {j : Nat} (h : j < l.length) (h' : j < m.length) : eqs (l.drop j) (m.drop j) = (colEq (rd_T53 l (j : Int)) (rd_T53 m (j : Int)) && eqs (l.drop (j + 1)) (m.drop (j + 1))) := by
  have e : ∀ {q : List Col} (hq : j < q.length), rd_T53 q (j : Int) = q[j] := fun {q} hq => by
    unfold rd_T53
    rw [Int.toNat_natCast, List.getD_eq_getElem?_getD, List.getElem?_eq_getElem hq]; rfl
  rw [List.drop_eq_getElem_cons h, List.drop_eq_getElem_cons h', eqs, e h, e h']
theorem eqs_len {l m : List Col} (h : l.length ≠ m.length) : eqs l m = false := by
  cases e : eqs l m
  · rfl
  · exact absurd (congrArg List.length ((eqs_iff l m).1 e)) h
set_option maxHeartbeats 4000000 in
theorem same1_calls (s t : ByteArray) (a b : Int) (w : World) : Calls Tryd.prog 38 #[.agg #[.string s, .int .i64 a], .agg #[.string t, .int .i64 b]] w fun e w' => e = .returned (.bool (colEq ⟨s, a⟩ ⟨t, b⟩)) ∧ Below w.heap.size w w' := by
  have hb := below_alloc (below_alloc (Below.refl w.heap.size w) (.cells #[.string s, .int .i64 a] 53)) (.cells #[.string t, .int .i64 b] 53)
  have HB := Aside0.mk hb
  by_cases h1 : s.toList = t.toList
  · have q1 : (s.toList = t.toList) = True := eq_true h1
    by_cases h2 : a = b
    · have q2 : (a = b) = True := eq_true h2
      rw [show colEq ⟨s, a⟩ ⟨t, b⟩ = true from by unfold colEq; rw [str_toList, str_toList] at h1; simp [h1, h2]]
      clear h1 h2 hb
      go_enter Tryd.func38, Tryd.ntmps38
      go_wp2
      go_ret
      exact ⟨rfl, HB.out⟩
    · have q2 : (a = b) = False := eq_false h2
      rw [show colEq ⟨s, a⟩ ⟨t, b⟩ = false from by unfold colEq; simp [h2]]
      clear h1 h2 hb
      go_enter Tryd.func38, Tryd.ntmps38
      go_wp2
      go_ret
      exact ⟨rfl, HB.out⟩
  · have q1 : (s.toList = t.toList) = False := eq_false h1
    rw [show colEq ⟨s, a⟩ ⟨t, b⟩ = false from by
      rw [str_toList, str_toList] at h1
      show ((s.data.toList == t.data.toList) && (a == b)) = false
      rw [beq_eq_false_iff_ne.2 h1]; rfl]
    clear h1 hb
    go_enter Tryd.func38, Tryd.ntmps38
    go_wp2
    go_ret
    exact ⟨rfl, HB.out⟩
theorem cell_lt {w : World} {p : Addr} {v : Value} (h : w.cell? p = some v) : p.block < w.heap.size := by
  cases hh : w.heap[p.block]? with
  | none => simp [World.cell?, hh] at h
  | some o => exact blk_lt hh
theorem cell_alloc {w : World} {p : Addr} {v : Value} (h : w.cell? p = some v) (o : Obj) : (w.alloc o).cell? p = some v :=
  (Below.cell (below_alloc (Below.refl w.heap.size w) o) (cell_lt h)).trans h
set_option maxHeartbeats 8000000 in
theorem equal_calls {A A' : Option Addr} {c c' : Nat} {l l' : List Col} (w : World) (hr : Kd.C k53 w A l.length l) (hr' : Kd.C k53 w A' l'.length l') :
    Calls Tryd.prog 37 #[.slice A l.length c, .slice A' l'.length c', .func (Fn.func 38) #[] #[]] w fun e w' => e = .returned (.bool (eqs l l')) ∧ Below w.heap.size w w' := by
  have HR := Aside0.mk hr
  have HR' := Aside0.mk hr'
  obtain ⟨n, hn⟩ : ∃ n, l.length = n := ⟨_, rfl⟩
  obtain ⟨n', hn'⟩ : ∃ n', l'.length = n' := ⟨_, rfl⟩
  have HN := Aside0.mk hn
  have HN' := Aside0.mk hn'
  have HMX := Aside0.mk (Kd.C_max hr)
  rw [hn, hn']
  by_cases hne : n = n'
  case neg =>
    have t1 : ((n : Int) != (n' : Int)) = true := bne_iff_ne.mpr (by omega)
    rw [eqs_len (by omega)]
    clear hr hr' hn hn' hne
    go_enter Tryd.func37, Tryd.ntmps37
    go_wp2
    go_ret
    exact ⟨rfl, Below.refl _ _⟩
  subst hne
  obtain ⟨r, hrr⟩ : ∃ r, eqs l l' = r := ⟨_, rfl⟩
  rw [hrr]
  have HRR := Aside0.mk hrr
  clear hr hr' hn hn' hrr
  go_enter Tryd.func37, Tryd.ntmps37
  go_wp2_with fail
  go_loopw [7, 8, 9, 17] (fun u v x i wr => ∃ j : Nat, j ≤ n ∧ i = .int .i64 (j : Int) ∧ Aside0 (eqs (l.drop j) (l'.drop j) = r) ∧ Aside0 (Below w.heap.size w wr)) (fun _ _ _ i _ => n - (intOf i).toNat)
  case atStart => exact ⟨0, by omega, rfl, ⟨HRR.out⟩, ⟨Below.refl _ _⟩⟩
  case round =>
    obtain ⟨j, hj, rfl, HT, HB⟩ := hrel
    clear HRR
    by_cases hlt : j < n
    · have u1 : decide ((j : Int) < (n : Int)) = true := decide_eq_true (by omega)
      have u2 : decide (j < n) = true := decide_eq_true hlt
      have HLT := Aside0.mk hlt
      obtain ⟨ad, e, h0, h1⟩ := at_T53 (Kd.C_below HR.out HB.out) (j : Int) (by omega) (by have := HN.out; omega)
      cases e
      obtain ⟨ad', e, h0', h1'⟩ := at_T53 (Kd.C_below HR'.out HB.out) (j : Int) (by omega) (by have := HN'.out; omega)
      cases e
      rw [Int.toNat_natCast] at h0 h1 h0' h1'
      have p1 : (0 ≤ (j : Int)) = True := eq_true (by omega)
      have p2 : ((j : Int) < (n : Int)) = True := eq_true (by omega)
      have hmax : (j : Int) + 1 ≤ 9223372036854775807 := by have := HMX.out; have := HN.out; omega
      have HT2 := Aside0.mk ((eqs_drop (l := l) (m := l') (j := j) (by have := HN.out; omega) (by have := HN'.out; omega)).symm.trans HT.out)
      obtain ⟨X, hX⟩ : ∃ X, rd_T53 l (j : Int) = X := ⟨_, rfl⟩
      obtain ⟨Y, hY⟩ : ∃ Y, rd_T53 l' (j : Int) = Y := ⟨_, rfl⟩
      rw [hX] at h0 h1 HT2
      rw [hY] at h0' h1' HT2
      obtain ⟨s, a⟩ := X
      obtain ⟨t, b⟩ := Y
      simp only at h0 h1 h0' h1'
      have g0 := cell_alloc h0' (.cells #[.string s, .int .i64 a] 53)
      have g1 := cell_alloc h1' (.cells #[.string s, .int .i64 a] 53)
      clear h0' h1'
      clear hj hlt hX hY HT
      go_wp2_with fail
      clear g0 g1 h0 h1
      refine (same1_calls s t a b _).mono ?_
      rintro e w2 ⟨rfl, hb⟩
      have HB2 := Aside0.mk (below_step (below_alloc (below_alloc HB.out (.cells #[.string s, .int .i64 a] 53)) (.cells #[.string t, .int .i64 b] 53)) hb)
      clear hb
      cases hq : colEq ⟨s, a⟩ ⟨t, b⟩
      · have hr : r = false := by rw [← HT2.out, hq]; rfl
        subst hr
        clear hq HT2
        go_wp2
        go_ret
        exact ⟨rfl, HB2.out⟩
      · have HT3 := Aside0.mk (show eqs (l.drop (j + 1)) (l'.drop (j + 1)) = r from by rw [← HT2.out, hq]; rfl)
        clear hq HT2
        go_wp2_with fail
        go_roundw
        case rel => exact ⟨j + 1, HLT.out, by go_num, ⟨HT3.out⟩, ⟨HB2.out⟩⟩
        case measure => have := HLT.out; simp [intOf]; omega
    · have u1 : decide ((j : Int) < (n : Int)) = false := decide_eq_false (by omega)
      have u2 : decide (j < n) = false := decide_eq_false hlt
      have hr : r = true := by rw [← HT.out, List.drop_eq_nil_of_le (by have := HN.out; omega), List.drop_eq_nil_of_le (by have := HN'.out; omega)]; rfl
      subst hr
      clear hj hlt HT
      go_wp2
      go_ret
      exact ⟨rfl, HB.out⟩
theorem same_calls {A A' : Option Addr} {c c' : Nat} {l l' : List Col} (w : World) (hr : Kd.C k53 w A l.length l) (hr' : Kd.C k53 w A' l'.length l') :
    Calls Tryd.prog 16 #[.slice A l.length c, .slice A' l'.length c'] w fun e w' => e = .returned (.bool (eqs l l')) ∧ Below w.heap.size w w' := by
  have HE := Aside0.mk (equal_calls (c := c) (c' := c') w hr hr')
  obtain ⟨n, hn⟩ : ∃ n, l.length = n := ⟨_, rfl⟩
  obtain ⟨n', hn'⟩ : ∃ n', l'.length = n' := ⟨_, rfl⟩
  rw [hn, hn'] at HE ⊢
  clear hr hr' hn hn'
  go_enter Tryd.func16, Tryd.ntmps16
  go_wp2_with fail
  refine HE.out.mono ?_
  rintro e w1 ⟨rfl, hb⟩
  go_wp2_with fail
  go_ret
  exact ⟨rfl, hb⟩
end Go.Proofs.YtciolchdihlgfaaDoor.Sc
/-! Schema: Parse. -/
namespace Go.Proofs.YtciolchdihlgfaaDoor.Sc
open Go.RowKit Go.Proofs.YtciolchdihlgfaaDoorW.PrintWords Go.Proofs.YtciolchdihlgfaaDoorW.PrintLast Go.Proofs.YtciolchdihlgfaaDoorW.PrintMore Go.Proofs.YtciolchdihlgfaaDoor.Wire Go.Proofs.YtciolchdihlgfaaDoor.PSc Go.Proofs.YtciolchdihlgfaaDoor.Co Go.Proofs.YtciolchdihlgfaaDoor.Ce Go.Maps Go.WideMaps
set_option linter.unusedVariables false
set_option linter.unusedSimpArgs false
set_option maxRecDepth 100000
/-- The variable internal/bytealg.MaxLen holds some int. -/
structure MaxW (w : World) : Prop where
  cell : ∃ m, w.cell? ⟨1, 0, none⟩ = some (.int .i64 m)
theorem MaxW.below {w w' : World} (h : MaxW w) (hb : Below w.heap.size w w') : MaxW w' := by
  obtain ⟨m, hm⟩ := h.cell
  exact ⟨m, (Below.cell hb (cell_lt hm)).trans hm⟩
/-- A part's column; a kind of -1: there is none. -/
def pcol (p : ByteArray) : Col := ⟨⟨(Lib.cut p.data.toList [58]).1.toArray⟩, Lib.idxOfS NAMES ⟨(Lib.cut p.data.toList [58]).2.1.toArray⟩⟩
def pgo : List ByteArray → List Col → List Col × Int
  | [], acc => if sck acc = 0 then (acc, 0) else ([], sck acc)
  | p :: r, acc => if (pcol p).f1 < 0 then ([], 6) else pgo r (acc ++ [pcol p])
abbrev parts (s : ByteArray) : List ByteArray := Lib.splitB ⟨#[44]⟩ 0 (Lib.countB s ⟨#[44]⟩) s
/-- What a text's schema is, or why there is none. -/
def prs (s : ByteArray) : List Col × Int := pgo (parts s) []
theorem split_size (sep : ByteArray) : ∀ (k : Nat) (s : ByteArray), ∀ p ∈ Lib.splitB sep 0 k s, p.size ≤ s.size
  | 0, s, p, hp => by
    rw [Lib.splitB_zero] at hp
    simp only [List.mem_singleton] at hp
    rw [hp]; exact Nat.le_refl _
  | k + 1, s, p, hp => by
    unfold Lib.splitB at hp
    split at hp
    · simp only [List.mem_singleton] at hp
      rw [hp]; exact Nat.le_refl _
    · rcases List.mem_cons.1 hp with rfl | hp
      · rw [ByteArray.size_extract]; omega
      · have := split_size sep k _ p hp
        rw [ByteArray.size_extract] at this; omega
theorem cut_size (p : ByteArray) : (pcol p).f0.size ≤ p.size := by
  unfold pcol Lib.cut
  show (List.toArray _).size ≤ _
  rw [List.size_toArray]
  split
  · rw [List.length_take, data_length]; omega
  · rw [data_length]; exact Nat.le_refl _
theorem idx_rng (x : ByteArray) : -1 ≤ Lib.idxOfS NAMES x ∧ Lib.idxOfS NAMES x < 6 := by
  unfold Lib.idxOfS NAMES
  simp only [Lib.idxFromS]
  (repeat' split) <;> simp
theorem infoC : (Tryd.prog.info? 53).map (fun i => (i.zero, i.size, i.bytes)) = some (some (.agg #[.string ⟨#[]⟩, .int .i64 0]), 2, 24) := by kernel_rfl
set_option maxHeartbeats 16000000 in
theorem parse_calls (s : ByteArray) (hs : s.size ≤ 1000000) (w : World) (hN : NamesW w) (hM : MaxW w) :
    Calls Tryd.prog 9 #[.string s] w fun e w' => ∃ v, e = .returned (.tuple #[v, .int .i64 (prs s).2]) ∧ Kd.R k53 53 w' w.heap.size (fun _ => True) v (prs s).1 ∧ Below w.heap.size w w' := by
  obtain ⟨m0, hm0⟩ := hM.cell
  have HSP := Aside0.mk (Tryd.strings_Split s ⟨#[44]⟩ m0 w (by omega) hm0 (by decide))
  have hlen : (parts s).length = Lib.countB s ⟨#[44]⟩ + 1 := Lib.splitB_all _ (by decide) 0 _ s rfl
  have hle := Lib.countB_le ⟨#[44]⟩ (by decide) s.size s (Nat.le_refl _)
  obtain ⟨n, hn⟩ : ∃ n, Lib.countB s ⟨#[44]⟩ + 1 = n := ⟨_, rfl⟩
  have HSZ := Aside0.mk (fun p (hp : p ∈ parts s) => Nat.le_trans (split_size ⟨#[44]⟩ _ s p hp) hs)
  have hgo : pgo (parts s) [] = prs s := rfl
  obtain ⟨R, hR⟩ : ∃ R, prs s = R := ⟨_, rfl⟩
  rw [hR] at hgo ⊢
  rw [hn] at hlen HSP
  have hn1 : n ≤ 1000001 := by omega
  obtain ⟨P, hP⟩ : ∃ P, parts s = P := ⟨_, rfl⟩
  rw [hP] at hlen HSZ hgo
  rw [show Lib.splitB ⟨#[44]⟩ 0 (Lib.countB s ⟨#[44]⟩) s = P from hP] at HSP
  have HLEN := Aside0.mk hlen
  have HN1 := Aside0.mk hn1
  have HGO := Aside0.mk hgo
  have HNW := Aside0.mk hN
  have HMW := Aside0.mk hM
  clear hs hN hM hm0 hlen hle hn hR hn1 hP hgo
  go_enter Tryd.func9, Tryd.ntmps9
  go_wp2_with fail
  refine HSP.out.mono ?_
  rintro e w1 ⟨rfl, rfl⟩
  have HB := Aside0.mk (below_alloc (Below.refl w.heap.size w) (.cells (P.map Value.string).toArray 9))
  have BR := Aside0.mk (heap_alloc_new w (.cells (P.map Value.string).toArray 9))
  clear HSP
  generalize w.alloc (.cells (P.map Value.string).toArray 9) = W1 at *
  go_wp2_with fail
  go_loopw [4, 6, 7, 8, 9, 10, 15] (fun v q1 q2 q3 q4 q5 i wr => ∃ (j : Nat) (acc : List Col), j ≤ n ∧ i = .int .i64 (j : Int) ∧ Aside0 (acc.length = j) ∧ Aside0 (∀ c ∈ acc, c.f0.size ≤ 1000000) ∧ Aside0 (pgo (P.drop j) acc = R) ∧ Aside0 (Kd.R k53 53 wr w.heap.size (fun _ => True) v acc) ∧ Aside0 (wr.heap[w.heap.size]? = some (.cells (P.map Value.string).toArray 9 (0, 0))) ∧ Aside0 (Below w.heap.size w wr)) (fun _ _ _ _ _ _ i _ => n - (intOf i).toNat)
  case atStart => exact ⟨0, [], by omega, rfl, ⟨rfl⟩, ⟨fun _ h => by cases h⟩, ⟨HGO.out⟩, ⟨Kd.R_nil _ _ _ _ _⟩, ⟨BR.out⟩, ⟨HB.out⟩⟩
  case round =>
    clear HB BR HGO
    obtain ⟨j, acc, hj, rfl, HA, HAS, HT, HO, BR, HB⟩ := hrel
    obtain ⟨A5, c5, rfl⟩ := Kd.R_slice HO.out
    by_cases hlt : j < n
    · have u1 : decide ((j : Int) < (n : Int)) = true := decide_eq_true (by omega)
      have u2 : decide (j < n) = true := decide_eq_true hlt
      have HLT := Aside0.mk hlt
      have hjp : j < P.length := by have := HLEN.out; omega
      obtain ⟨p, hp⟩ : ∃ p, P[j] = p := ⟨_, rfl⟩
      have hcell : wr.cell? ⟨w.heap.size, j, none⟩ = some (.string p) := by
        rw [blk_cell BR.out j]
        simp [List.getElem?_eq_getElem hjp, hp]
      have HPM := Aside0.mk (HSZ.out p (by rw [← hp]; exact List.getElem_mem hjp))
      have HT2 := Aside0.mk (show (if (pcol p).f1 < 0 then (([] : List Col), (6 : Int)) else pgo (P.drop (j + 1)) (acc ++ [pcol p])) = R from by
        rw [← HT.out, List.drop_eq_getElem_cons hjp, pgo, hp])
      have p0 : (0 ≤ (j : Int)) = True := eq_true (by omega)
      have p1 : ((j : Int) < (n : Int)) = True := eq_true (by omega)
      have hmax : (j : Int) + 1 ≤ 9223372036854775807 := by have := HN1.out; omega
      have HL := Aside0.mk hlt
      clear hj hlt hjp hp HT
      go_wp2_with fail
      clear hcell
      obtain ⟨m1, hm1⟩ := (HMW.out.below HB.out).cell
      refine (Tryd.strings_Cut p ⟨#[58]⟩ m1 wr (by have := HPM.out; omega) hm1).mono ?_
      rintro e w2 ⟨rfl, q, rfl⟩
      have hb : Below wr.heap.size wr (wr.drewN q) := pw_below_drewN (Below.refl _ _) q
      replace HO := Aside0.mk (Kd.R_below HO.out hb)
      replace BR := Aside0.mk (blk_below BR.out hb)
      replace HB := Aside0.mk (below_step HB.out hb)
      clear hb hm1
      generalize wr.drewN q = W2 at *
      obtain ⟨C, hC⟩ : ∃ C, pcol p = C := ⟨_, rfl⟩
      rw [hC] at HT2
      have hc0 : (⟨(Lib.cut p.data.toList (⟨#[58]⟩ : ByteArray).data.toList).1.toArray⟩ : ByteArray) = C.f0 := by rw [← hC]; rfl
      have hc1 : Lib.idxOfS NAMES ⟨(Lib.cut p.data.toList (⟨#[58]⟩ : ByteArray).data.toList).2.1.toArray⟩ = C.f1 := by rw [← hC]; rfl
      have HCS := Aside0.mk (show C.f0.size ≤ 1000000 from by rw [← hC]; exact Nat.le_trans (cut_size p) HPM.out)
      have HCR := Aside0.mk (show -1 ≤ C.f1 ∧ C.f1 < 6 from by rw [← hc1]; exact idx_rng _)
      rw [hc0]
      obtain ⟨tv, htv⟩ : ∃ tv : ByteArray, (⟨(Lib.cut p.data.toList (⟨#[58]⟩ : ByteArray).data.toList).2.1.toArray⟩ : ByteArray) = tv := ⟨_, rfl⟩
      rw [htv] at hc1 ⊢
      have HC1 := Aside0.mk hc1
      obtain ⟨fb, hfb⟩ : ∃ fb, (Lib.cut p.data.toList (⟨#[58]⟩ : ByteArray).data.toList).2.2 = fb := ⟨_, rfl⟩
      rw [hfb]
      obtain ⟨nmv, kd⟩ := C
      clear hC hc0 htv hc1 hfb HPM
      simp only at HT2 HCS HCR HC1 ⊢
      go_wp2_with fail
      refine (names_calls W2 (HNW.out.below HB.out)).mono ?_
      rintro e w3 ⟨v3, rfl, hv, hb⟩
      obtain ⟨g3, cap3, rfl, -, -, -⟩ := Kd.R_form hv (by decide)
      have HC3 := Aside0.mk (show Kd.C Kd.string w3 (some ⟨g3, 0, none⟩) 6 NAMES from (Kd.R_reads' hv).2.2)
      replace HO := Aside0.mk (Kd.R_below HO.out hb)
      replace BR := Aside0.mk (blk_below BR.out hb)
      replace HB := Aside0.mk (below_step HB.out hb)
      rw [show NAMES.length = 6 from rfl]
      clear hv hb
      go_wp2_with fail
      obtain ⟨z3, hz3, r3⟩ := (Kd.reads_of_C (d := ByteArray.empty) HC3.out).2.2 (by omega)
      obtain rfl : (⟨g3, 0, none⟩ : Addr) = z3 := Option.some.inj hz3
      refine (Tryd.slices_Index_string g3 0 6 cap3 NAMES tv w3 (by decide) (by decide) (fun i hi => by have := r3 i hi; rw [add_plain] at this; rw [Nat.zero_add]; exact this)).mono ?_
      rintro e w4 ⟨rfl, hw⟩
      rw [hw, show NAMES.take 6 = NAMES from rfl, HC1.out]
      clear hw r3 hz3 HC3 HC1
      by_cases hk : kd < 0
      · have t1 : decide (kd < 0) = true := decide_eq_true hk
        have hr : R = ([], 6) := by rw [← HT2.out, if_pos hk]
        subst hr
        clear hk HT2
        have hfin := below_alloc HB.out (.cells #[.string nmv, .int .i64 kd] 53)
        have HF := Aside0.mk hfin
        clear hfin
        go_wp2_with fail
        go_ret2
        exact ⟨_, rfl, Kd.R_nil _ _ _ _ _, HF.out⟩
      have t1 : decide (kd < 0) = false := decide_eq_false hk
      have HT3 := Aside0.mk ((if_neg hk).symm.trans HT2.out)
      have hbA := below_alloc (Below.refl w3.heap.size w3) (.cells #[.string nmv, .int .i64 kd] 53)
      have HO4 := Aside0.mk (Kd.R_below HO.out hbA)
      have BR4 := Aside0.mk (blk_below BR.out hbA)
      have HB4 := Aside0.mk (below_step HB.out hbA)
      clear hk HT2 hbA HO BR HB
      dsimp only
      iterate 12 (first | go_step | skip)
      obtain ⟨W4, hW4⟩ : ∃ W4, w3.alloc (.cells #[.string nmv, .int .i64 kd] 53) = W4 := ⟨_, rfl⟩
      have f0 : W4.cell? ⟨w3.heap.size, 0, none⟩ = some (.string nmv) := by rw [← hW4]; exact (blk_cell (heap_alloc_new w3 _) 0).trans rfl
      have f1 : W4.cell? ⟨w3.heap.size, 1, none⟩ = some (.int .i64 kd) := by rw [← hW4]; exact (blk_cell (heap_alloc_new w3 _) 1).trans rfl
      rw [hW4] at HO4 BR4 HB4 ⊢
      clear hW4
      go_wp2_with (at_builtin; refine Kd.R_append k53 (w0 := w) w.heap.size rfl (.tmp 33) (.tmp 35) 24 53 (.agg #[.string ⟨#[]⟩, .int .i64 0]) 24 rfl Tryd.underlying24 infoC rfl (by decide) (by decide) _ acc ⟨nmv, kd⟩ [.string nmv, .int .i64 kd] (fun _ => True) (fun _ => False) rfl rfl (k53_mkM _ _ _ _) (fun _ h => h.elim) (fun _ _ => trivial) HO4.out HB4.out HB4.out.size ?aL ?_; (case aL => have := HA.out; have := HLT.out; have := HN1.out; omega); intro v1 w5 ho hb hg hat; have HO5 := Aside0.mk ho; have HB5 := Aside0.mk hb; have BR5 := Aside0.mk (blk_grown BR4.out hg (Kd.R_ne HO4.out BR4.out (by decide))); clear ho hb hg hat)
      go_roundw
      case rel => exact ⟨j + 1, acc ++ [⟨nmv, kd⟩], HLT.out, by go_num, ⟨by rw [List.length_append, HA.out]; rfl⟩, ⟨fun c hc => (List.mem_append.1 hc).elim (HAS.out c) (fun h => by rw [List.mem_singleton.1 h]; exact HCS.out)⟩, ⟨HT3.out⟩, ⟨HO5.out⟩, ⟨BR5.out⟩, ⟨HB5.out⟩⟩
      case measure => have := HLT.out; simp [intOf]; omega
    · have u1 : decide ((j : Int) < (n : Int)) = false := decide_eq_false (by omega)
      have u2 : decide (j < n) = false := decide_eq_false hlt
      have HT2 := Aside0.mk (show (if sck acc = 0 then (acc, 0) else (([] : List Col), sck acc)) = R from by rw [← HT.out, List.drop_eq_nil_of_le (by have := HLEN.out; omega), pgo])
      have HRD := Aside0.mk (Kd.R_reads' HO.out)
      have HCK := Aside0.mk (scheck_calls wr (HNW.out.below HB.out) (Kd.R_reads' HO.out).2.2 (Kd.R_reads' HO.out).2.1 (fun i => by
        unfold rd_T53
        rw [List.getD_eq_getElem?_getD]
        cases e : acc[i.toNat]? with
        | none => exact Nat.zero_le _
        | some x => have := HAS.out x (List.mem_of_getElem? e); simp only [Option.getD_some]; omega))
      obtain ⟨k, hk⟩ : ∃ k, sck acc = k := ⟨_, rfl⟩
      rw [hk] at HCK HT2
      clear hj hlt HT hk
      by_cases h0 : k = 0
      · subst h0
        have hr : R = (acc, 0) := by rw [← HT2.out, if_pos rfl]
        subst hr
        clear HT2
        go_wp2_with fail
        refine HCK.out.mono ?_
        rintro e w2 ⟨rfl, hb⟩
        have HO2 := Aside0.mk (Kd.R_below HO.out hb)
        have HB2 := Aside0.mk (below_step HB.out hb)
        clear hb
        go_wp2_with fail
        go_ret2
        exact ⟨_, rfl, HO2.out, HB2.out⟩
      · have t1 : (k != 0) = true := bne_iff_ne.mpr h0
        have hr : R = ([], k) := by rw [← HT2.out, if_neg h0]
        subst hr
        clear HT2 h0
        go_wp2_with fail
        refine HCK.out.mono ?_
        rintro e w2 ⟨rfl, hb⟩
        have HB2 := Aside0.mk (below_step HB.out hb)
        clear hb
        go_wp2_with fail
        go_ret2
        exact ⟨_, rfl, Kd.R_nil _ _ _ _ _, HB2.out⟩
end Go.Proofs.YtciolchdihlgfaaDoor.Sc
/-! Schema: the document's example; are columns more than are looked at. -/
namespace Go.Proofs.YtciolchdihlgfaaDoor.Sc
open Go.RowKit Go.Proofs.YtciolchdihlgfaaDoorW.PrintWords Go.Proofs.YtciolchdihlgfaaDoorW.PrintLast Go.Proofs.YtciolchdihlgfaaDoorW.PrintMore Go.Proofs.YtciolchdihlgfaaDoor.Wire Go.Proofs.YtciolchdihlgfaaDoor.PSc Go.Proofs.YtciolchdihlgfaaDoor.Co Go.Proofs.YtciolchdihlgfaaDoor.Ce Go.Maps Go.WideMaps
set_option linter.unusedVariables false
set_option linter.unusedSimpArgs false
set_option maxRecDepth 100000
abbrev EX : ByteArray := ⟨#[105, 100, 58, 105, 110, 116, 44, 110, 97, 109, 101, 58, 116, 101, 120, 116]⟩
abbrev EXL : List Col := [⟨⟨#[105, 100]⟩, 0⟩, ⟨⟨#[110, 97, 109, 101]⟩, 4⟩]
theorem ex_prs : prs EX = (EXL, 0) := by kernel_rfl
theorem ex_sck : sck EXL = 0 := by kernel_rfl
theorem ex_wS : strOfNums (wS EXL) = ⟨#[2, 2, 105, 100, 0, 4, 110, 97, 109, 101, 4]⟩ := by
  have : wS EXL = [2, 2, 105, 100, 0, 4, 110, 97, 109, 101, 4] := by
    unfold wS wcs wcol
    simp only [List.flatMap_cons, List.flatMap_nil, List.length_cons, List.length_nil]
    rw [uv_small (by decide), uv_small (by decide), uv_small (by decide)]
    rfl
  have e2 : strOfNums [2, 2, 105, 100, 0, 4, 110, 97, 109, 101, 4] = (⟨#[2, 2, 105, 100, 0, 4, 110, 97, 109, 101, 4]⟩ : ByteArray) := by first | rfl | decide | decide +kernel
  rw [this]
  exact e2
theorem rd_size {l : List Col} {B : Nat} (h : ∀ c ∈ l, c.f0.size ≤ B) (i : Int) : (rd_T53 l i).f0.size ≤ B := by
  unfold rd_T53
  rw [List.getD_eq_getElem?_getD]
  cases e : l[i.toNat]? with
  | none => exact Nat.zero_le _
  | some x => simp only [Option.getD_some]; exact h x (List.mem_of_getElem? e)
set_option maxHeartbeats 8000000 in
theorem alive_calls (w : World) (hN : NamesW w) (hM : MaxW w) : Calls Tryd.prog 6 #[] w fun e w' => e = .returned (.bool true) ∧ Below w.heap.size w w' := by
  have HP := Aside0.mk (parse_calls EX (by decide) w hN hM)
  rw [ex_prs] at HP
  have HW := Aside0.mk (fun (W : World) (A : Option Addr) (c : Nat) (hb : Below w.heap.size w W) (hr : Kd.C k53 W A EXL.length EXL) (hc : EXL.length ≤ c) => swrite_calls (l := EXL) W (hN.below hb) hr hc (fun i => Nat.le_trans (rd_size (B := 4) (fun c hc => by simp [EXL] at hc; rcases hc with rfl | rfl <;> decide) i) (by decide)))
  rw [ex_sck, if_pos rfl] at HW
  have HS := Aside0.mk ex_wS
  clear hN hM
  go_enter Tryd.func6, Tryd.ntmps6
  go_wp2_with fail
  refine HP.out.mono ?_
  rintro e w1 ⟨v, rfl, hv, hb⟩
  obtain ⟨A1, c1, rfl, hc, hC⟩ := Kd.R_reads hv
  have HW1 := Aside0.mk (HW.out w1 A1 c1 hb hC hc)
  have HB := Aside0.mk hb
  clear hv hb hC hc HW HP
  rw [show EXL.length = 2 from rfl] at HW1 ⊢
  go_wp2_with fail
  refine HW1.out.mono ?_
  rintro e w2 ⟨v, rfl, hv, hb⟩
  obtain ⟨A2, c2, rfl, -, hC⟩ := Kd.R_reads hv
  have kc := Kd.C_string (P := Tryd.prog) (A := A2) (c := c2) Tryd.underlying22 Tryd.underlying5 Tryd.underlying9 hC
  rw [HS.out] at kc
  have hfin := Aside0.mk (below_step HB.out hb)
  clear hv hb hC HW1
  go_wp2_with fail
  go_ret
  exact ⟨rfl, hfin.out⟩
theorem great_some {l : List Col} (hl : l.length ≤ 9223372036854775807) : ∀ d k i (x : Int), l.length - i = d → i ≤ l.length → d < k → ∃ r, decklelaw05_great.l0 k x l (l.length : Int) (i : Int) = some r := by
  intro d
  induction d with
  | zero =>
    intro k i x hd hi hk
    obtain ⟨k, rfl⟩ : ∃ q, k = q + 1 := ⟨k - 1, by omega⟩
    exact ⟨_, by rw [decklelaw05_great.l0, if_neg (by omega)]⟩
  | succ d ih =>
    intro k i x hd hi hk
    obtain ⟨k, rfl⟩ : ∃ q, k = q + 1 := ⟨k - 1, by omega⟩
    rw [decklelaw05_great.l0, if_pos (by omega), if_pos (by omega), if_pos (by omega), ScG.w64 (n := (i : Int) + 1) (by omega) (by omega)]
    exact ih k (i + 1) _ (by omega) (by omega) (by omega)
theorem great_calls {A : Option Addr} {c : Nat} {l : List Col} (w : World) (hr : Kd.C k53 w A l.length l) (hc : l.length ≤ c) : ∃ g : Bool, ∀ W, Below w.heap.size w W → Calls Tryd.prog 15 #[.slice A l.length c] W fun e w' => e = .returned (.bool g) ∧ Below W.heap.size W w' := by
  obtain ⟨g, hg⟩ := great_some (Kd.C_max hr) l.length (l.length + 1) 0 0 rfl (Nat.zero_le _) (by omega)
  exact ⟨g, fun W hb => decklelaw05_great.calls (l.length + 1) A c l g W (Kd.C_below hr hb) hc hg⟩
end Go.Proofs.YtciolchdihlgfaaDoor.Sc
/-! SchemaPrints: the plain law. -/
namespace Go.Proofs.YtciolchdihlgfaaDoor.Sc
open Go.RowKit Go.Proofs.YtciolchdihlgfaaDoorW.PrintWords Go.Proofs.YtciolchdihlgfaaDoorW.PrintLast Go.Proofs.YtciolchdihlgfaaDoorW.PrintMore Go.Proofs.YtciolchdihlgfaaDoor.Wire Go.Proofs.YtciolchdihlgfaaDoor.PSc Go.Proofs.YtciolchdihlgfaaDoor.Co Go.Proofs.YtciolchdihlgfaaDoor.Ce
set_option linter.unusedVariables false
set_option linter.unusedSimpArgs false
set_option maxRecDepth 100000
/-- A column that may be, by itself. -/
def ok1 (c : Col) : Prop := c.f0.size ≤ 32 ∧ c.f0.size ≠ 0 ∧ lts c.f0 = true ∧ (0 ≤ c.f1 ∧ c.f1 < 6)
theorem scan_iff : ∀ (l : List Col) (ks : List ByteArray), scan ks l = 0 ↔ (∀ c ∈ l, ok1 c) ∧ (l.map (·.f0)).Nodup ∧ ∀ c ∈ l, c.f0 ∉ ks
  | [], ks => by simp [scan]
  | a :: r, ks => by
    have ih := scan_iff r (a.f0 :: ks)
    rw [scan]
    have hfine : fine ks a.f0 = true ↔ a.f0.size ≠ 0 ∧ lts a.f0 = true ∧ a.f0 ∉ ks := by
      unfold fine
      rw [Bool.and_eq_true, Bool.and_eq_true, decide_eq_true_eq, Bool.not_eq_true', and_assoc]
      have : has ks a.f0 = false ↔ a.f0 ∉ ks := by
        rw [← has_iff]; cases has ks a.f0 <;> simp
      rw [this]
    simp only [List.map_cons, List.nodup_cons, List.mem_cons, forall_eq_or_imp]
    by_cases h1 : 32 < a.f0.size
    · rw [if_pos h1]
      constructor
      · intro h; omega
      · rintro ⟨⟨h, -⟩, -⟩; exact absurd h.1 (by omega)
    rw [if_neg h1]
    by_cases h2 : fine ks a.f0 = false
    · rw [if_pos h2]
      constructor
      · intro h; omega
      · rintro ⟨⟨h, -⟩, -, h3, -⟩
        have := hfine.2 ⟨h.2.1, h.2.2.1, h3⟩
        rw [h2] at this; exact absurd this Bool.false_ne_true
    rw [if_neg h2]
    have hf := hfine.1 (by cases hh : fine ks a.f0 <;> simp_all)
    by_cases h3 : ¬(0 ≤ a.f1 ∧ a.f1 < 6)
    · rw [if_pos h3]
      constructor
      · intro h; omega
      · rintro ⟨⟨h, -⟩, -⟩; exact absurd h.2.2.2 h3
    rw [if_neg h3, ih]
    have h3' := Decidable.not_not.1 h3
    constructor
    · rintro ⟨g1, g2, g3⟩
      refine ⟨⟨⟨by omega, hf.1, hf.2.1, h3'⟩, g1⟩, ⟨fun hm => ?_, g2⟩, hf.2.2, fun c hc hk => g3 c hc (List.mem_cons_of_mem _ hk)⟩
      obtain ⟨c, hc, e⟩ := List.mem_map.1 hm
      exact g3 c hc (by rw [e]; exact List.mem_cons_self ..)
    · rintro ⟨⟨-, g1⟩, ⟨g2, g3⟩, -, g4⟩
      refine ⟨g1, g3, fun c hc hk => ?_⟩
      rcases List.mem_cons.1 hk with e | hk
      · exact g2 (List.mem_map.2 ⟨c, hc, e⟩)
      · exact g4 c hc hk
theorem sck_iff (l : List Col) : sck l = 0 ↔ (0 < l.length ∧ l.length ≤ 8) ∧ (∀ c ∈ l, ok1 c) ∧ (l.map (·.f0)).Nodup := by
  unfold sck
  by_cases h1 : l.length = 0
  · rw [if_pos h1]
    constructor
    · intro h; omega
    · rintro ⟨⟨h, -⟩, -⟩; omega
  rw [if_neg h1]
  by_cases h2 : 8 < l.length
  · rw [if_pos h2]
    constructor
    · intro h; omega
    · rintro ⟨⟨-, h⟩, -⟩; omega
  rw [if_neg h2, scan_iff]
  simp only [List.not_mem_nil, not_false_eq_true, implies_true, and_true]
  exact ⟨fun h => ⟨by omega, h⟩, fun h => h.2⟩
theorem str_bytes_ (s : ByteArray) : strOfNums (bytesOf s) = s := by
  refine ByteArray.ext (Array.toList_inj.1 ?_)
  rw [strOfNums_data]
  unfold bytesOf
  rw [List.map_map]
  refine (List.map_congr_left (g := id) fun x _ => ?_).trans (List.map_id _)
  show UInt8.ofNat ((x.toNat : Int).toNat) = x
  rw [Int.toNat_natCast]
  exact UInt8.ofNat_toNat
theorem bytesOf_inj {s t : ByteArray} (h : bytesOf s = bytesOf t) : s = t := by
  have e1 := str_bytes_ s
  have e2 := str_bytes_ t
  rw [h] at e1
  exact e1.symm.trans e2
theorem wcol_inj {c d : Col} {r r' : List Int} (hc : ok1 c) (hd : ok1 d) (h : wcol c ++ r = wcol d ++ r') : c = d ∧ r = r' := by
  unfold wcol at h
  rw [uv_small (by have := hc.1; omega), uv_small (by have := hd.1; omega)] at h
  simp only [List.append_assoc, List.cons_append, List.nil_append] at h
  injection h with h1 h2
  have hs : c.f0.size = d.f0.size := by omega
  have hl := List.append_inj h2 (by rw [bytesOf_length, bytesOf_length, hs])
  obtain ⟨h3, h4⟩ := hl
  injection h4 with h5 h6
  have e : c.f0 = d.f0 := bytesOf_inj h3
  have k : c.f1 = d.f1 := by have := hc.2.2.2; have := hd.2.2.2; omega
  obtain ⟨a, b⟩ := c
  obtain ⟨a', b'⟩ := d
  simp only at e k
  rw [e, k]
  exact ⟨rfl, h6⟩
theorem wcs_inj : ∀ l m : List Col, (∀ c ∈ l, ok1 c) → (∀ c ∈ m, ok1 c) → wcs l = wcs m → l = m
  | [], [], _, _, _ => rfl
  | [], d :: m, _, hm, h => by
    unfold wcs wcol at h
    rw [List.flatMap_cons, List.flatMap_nil] at h
    have := congrArg List.length h
    simp at this
  | c :: l, [], _, _, h => by
    unfold wcs wcol at h
    rw [List.flatMap_cons, List.flatMap_nil] at h
    have := congrArg List.length h
    simp at this
  | c :: l, d :: m, hl, hm, h => by
    have h' : wcol c ++ wcs l = wcol d ++ wcs m := by unfold wcs at h ⊢; rw [List.flatMap_cons, List.flatMap_cons] at h; exact h
    obtain ⟨e, r⟩ := wcol_inj (hl c (List.mem_cons_self ..)) (hm d (List.mem_cons_self ..)) h'
    rw [e, wcs_inj l m (fun x hx => hl x (List.mem_cons_of_mem _ hx)) (fun x hx => hm x (List.mem_cons_of_mem _ hx)) r]
theorem wS_inj {l m : List Col} (hl : sck l = 0) (hm : sck m = 0) (h : wS l = wS m) : l = m := by
  obtain ⟨a1, a2, -⟩ := (sck_iff l).1 hl
  obtain ⟨b1, b2, -⟩ := (sck_iff m).1 hm
  unfold wS at h
  rw [uv_small (by omega), uv_small (by omega)] at h
  injection h with h1 h2
  exact wcs_inj l m a2 b2 h2
theorem str_inj {a b : List Int} (ha : Bytes a) (hb : Bytes b) (h : strOfNums a = strOfNums b) : a = b := by
  have e : ∀ l : List Int, Bytes l → bytesOf (strOfNums l) = l := fun l hl => by
    unfold bytesOf
    rw [strOfNums_data, List.map_map]
    conv => rhs; rw [← List.map_id l]
    refine List.map_congr_left fun x hx => ?_
    have := hl x hx
    simp only [Function.comp, id]
    rw [UInt8.toNat_ofNat']
    omega
  rw [← e a ha, ← e b hb, h]
theorem rd_get {l : List Col} {j : Nat} (h : j < l.length) : rd_T53 l (j : Int) = l[j] := by
  unfold rd_T53
  rw [Int.toNat_natCast, List.getD_eq_getElem?_getD, List.getElem?_eq_getElem h]; rfl
/-- One column's kind turned. -/
def turn (l : List Col) (i : Nat) : List Col := l.set i ⟨(rd_T53 l (i : Int)).f0, ((rd_T53 l (i : Int)).f1 + 1) % 6⟩
/-- Two columns in the other order. -/
def swap (l : List Col) (i : Nat) : List Col := (l.set 0 (rd_T53 l (i : Int))).set i (rd_T53 l 0)
theorem turn_names {l : List Col} {i : Nat} (h : i < l.length) : (turn l i).map (·.f0) = l.map (·.f0) := by
  unfold turn
  rw [List.map_set, rd_get h]
  apply List.ext_getElem
  · simp
  · intro j h1 h2
    rw [List.getElem_set]
    split
    · rename_i e; subst e; simp
    · rfl
theorem turn_ok {l : List Col} {i : Nat} (hl : sck l = 0) (h : i < l.length) : sck (turn l i) = 0 := by
  obtain ⟨a1, a2, a3⟩ := (sck_iff l).1 hl
  refine (sck_iff _).2 ⟨by unfold turn; rw [List.length_set]; exact a1, fun c hc => ?_, by rw [turn_names h]; exact a3⟩
  unfold turn at hc
  rcases List.mem_or_eq_of_mem_set hc with hc | rfl
  · exact a2 c hc
  · have := a2 _ (rd_mem h)
    exact ⟨this.1, this.2.1, this.2.2.1, by have := this.2.2.2; simp only; omega⟩
theorem turn_ne {l : List Col} {i : Nat} (hl : sck l = 0) (h : i < l.length) : l ≠ turn l i := by
  intro e
  obtain ⟨a1, a2, a3⟩ := (sck_iff l).1 hl
  have h1 := (a2 _ (rd_mem h)).2.2.2
  have e2 : rd_T53 l (i : Int) = ⟨(rd_T53 l (i : Int)).f0, ((rd_T53 l (i : Int)).f1 + 1) % 6⟩ := by
    have e3 : l[i]? = (turn l i)[i]? := by rw [← e]
    unfold turn at e3
    rw [List.getElem?_set_self h, List.getElem?_eq_getElem h, ← rd_get h] at e3
    exact Option.some.inj e3
  have e4 := congrArg (·.f1) e2
  simp only at e4
  omega
theorem swap_get {l : List Col} {i : Nat} (h : i < l.length) (h0 : 0 < l.length) {j : Nat} (hj : j < l.length) : (swap l i)[j]? = some (l[if j = i then 0 else if j = 0 then i else j]'(by split; exact h0; split; exact h; exact hj)) := by
  unfold swap
  rw [show (0 : Int) = ((0 : Nat) : Int) from rfl, rd_get h, rd_get h0]
  by_cases e : j = i
  · subst e
    rw [List.getElem?_set_self (by rw [List.length_set]; exact hj)]
    simp
  · rw [List.getElem?_set_ne (fun x => e x.symm)]
    by_cases e0 : j = 0
    · subst e0
      rw [List.getElem?_set_self hj]
      simp [e]
    · rw [List.getElem?_set_ne (fun x => e0 x.symm), List.getElem?_eq_getElem hj]
      simp [e, e0]
theorem swap_len (l : List Col) (i : Nat) : (swap l i).length = l.length := by unfold swap; rw [List.length_set, List.length_set]
theorem swap_ok {l : List Col} {i : Nat} (hl : sck l = 0) (h : i < l.length) : sck (swap l i) = 0 := by
  obtain ⟨a1, a2, a3⟩ := (sck_iff l).1 hl
  refine (sck_iff _).2 ⟨by rw [swap_len]; exact a1, fun c hc => ?_, ?_⟩
  · unfold swap at hc
    rcases List.mem_or_eq_of_mem_set hc with hc | rfl
    · rcases List.mem_or_eq_of_mem_set hc with hc | rfl
      · exact a2 c hc
      · exact a2 _ (rd_mem h)
    · exact a2 _ (by have := rd_mem (l := l) (j := 0) a1.1; exact this)
  · rw [List.Nodup, List.pairwise_iff_getElem] at a3 ⊢
    intro p q hp hq hpq
    simp only [List.length_map] at hp hq
    rw [swap_len] at hp hq
    have key : ∀ {r : Nat} (hr : r < l.length), ((swap l i).map (·.f0))[r]'(by rw [List.length_map, swap_len]; exact hr) = (l[if r = i then 0 else if r = 0 then i else r]'(by split; exact a1.1; split; exact h; exact hr)).f0 := fun {r} hr => by
      have := swap_get h a1.1 hr
      rw [List.getElem_map]
      rw [List.getElem?_eq_getElem (by rw [swap_len]; exact hr)] at this
      rw [Option.some.inj this]
    rw [key hp, key hq]
    have ne : ∀ (x y : Nat) (hx : x < l.length) (hy : y < l.length), x ≠ y → (l[x]).f0 ≠ (l[y]).f0 := fun x y hx hy hne => by
      rcases Nat.lt_or_gt_of_ne hne with c | c
      · have := a3 x y (by simpa using hx) (by simpa using hy) c
        simpa using this
      · have := a3 y x (by simpa using hy) (by simpa using hx) c
        exact fun e => this (by simpa using e.symm)
    exact ne _ _ _ _ (by (repeat' split) <;> omega)
theorem swap_eq {l : List Col} {i : Nat} (hl : sck l = 0) (h : i < l.length) : l = swap l i ↔ i = 0 := by
  obtain ⟨a1, a2, a3⟩ := (sck_iff l).1 hl
  constructor
  · intro e
    refine Decidable.byContradiction fun hi => ?_
    have h1 : l[0]? = (swap l i)[0]? := by rw [← e]
    rw [swap_get h a1.1 a1.1, List.getElem?_eq_getElem a1.1] at h1
    have h2 := Option.some.inj h1
    simp only [show ¬ (0 = i) from fun x => hi x.symm, if_false, if_true] at h2
    rw [List.Nodup, List.pairwise_iff_getElem] at a3
    have := a3 0 i (by simpa using a1.1) (by simpa using h) (by omega)
    exact this (by simp [h2])
  · rintro rfl
    unfold swap
    rw [show ((0 : Nat) : Int) = 0 from rfl, List.set_set]
    apply List.ext_getElem
    · simp
    · intro j h1 h2
      rw [List.getElem_set]
      split
      · rename_i e; subst e
        have := rd_get a1.1
        rw [show ((0 : Nat) : Int) = 0 from rfl] at this
        exact this.symm
      · rfl
end Go.Proofs.YtciolchdihlgfaaDoor.Sc
/-! Schema: the document's Check, Same. -/
namespace Go.Proofs.YtciolchdihlgfaaDoor.Sc
open Go.RowKit Go.Proofs.YtciolchdihlgfaaDoorW.PrintWords Go.Proofs.YtciolchdihlgfaaDoorW.PrintLast Go.Proofs.YtciolchdihlgfaaDoorW.PrintMore Go.Proofs.YtciolchdihlgfaaDoor.Wire Go.Proofs.YtciolchdihlgfaaDoor.PSc Go.Proofs.YtciolchdihlgfaaDoor.Co Go.Proofs.YtciolchdihlgfaaDoor.Ce
set_option linter.unusedVariables false
set_option linter.unusedSimpArgs false
set_option maxRecDepth 100000
/-- Is it the name of one of these columns? -/
def hasC (l : List Col) (s : ByteArray) : Bool := l.any (fun c => c.f0.data.toList == s.data.toList)
theorem hasC_nms (l : List Col) (s : ByteArray) : hasC l s = has (nms l) s := by
  unfold hasC has nms
  rw [List.any_reverse, List.any_map]; rfl
theorem lt_bt (s : ByteArray) {i : Nat} (h : i < s.size) : lt_ (s[i]'h) = decide (97 ≤ bt s (i : Int) ∧ bt s (i : Int) ≤ 122 ∨ 48 ≤ bt s (i : Int) ∧ bt s (i : Int) ≤ 57 ∨ bt s (i : Int) = 95) := by
  rw [bt_nat s h]
  have e := lt_iff ⟨(s[i]'h).toNat, (s[i]'h).toNat_lt⟩
  simp only [UInt8.ofNat_toNat] at e
  rw [e]
  congr 1
  apply propext
  constructor <;> intro h <;> omega
theorem str_drop (s : ByteArray) {i : Nat} (h : i < s.size) : s.data.toList.drop i = (s[i]'h) :: s.data.toList.drop (i + 1) := by
  rw [List.drop_eq_getElem_cons (by rw [data_length]; exact h)]; rfl
theorem fine1 (s : ByteArray) (l : List Col) (hl : l.length ≤ 9223372036854775806) : ∀ d k i, l.length - i = d → i ≤ l.length → d < k → deckleref05_Fine.l1 k s l (i : Int) = some (!hasC (l.drop i) s) := by
  intro d
  induction d with
  | zero =>
    intro k i hd hi hk
    obtain ⟨k, rfl⟩ : ∃ q, k = q + 1 := ⟨k - 1, by omega⟩
    rw [deckleref05_Fine.l1, if_neg (by omega), List.drop_eq_nil_of_le (by omega)]; rfl
  | succ d ih =>
    intro k i hd hi hk
    obtain ⟨k, rfl⟩ : ∃ q, k = q + 1 := ⟨k - 1, by omega⟩
    have hlt : i < l.length := by omega
    rw [deckleref05_Fine.l1, if_pos (by omega), if_pos (by omega), rd_get hlt, List.drop_eq_getElem_cons hlt]
    unfold hasC
    rw [List.any_cons]
    by_cases h : (l[i]).f0.toList = s.toList
    · rw [if_pos h]
      rw [str_toList, str_toList] at h
      rw [beq_iff_eq.2 h]; rfl
    · rw [if_neg h]
      rw [str_toList, str_toList] at h
      rw [beq_eq_false_iff_ne.2 h, Bool.false_or, ScG.w64 (n := (i : Int) + 1) (by omega) (by omega)]
      exact ih k (i + 1) (by omega) (by omega) (by omega)
theorem fine0 (s : ByteArray) (l : List Col) (hl : l.length ≤ 9223372036854775806) (hs : s.size ≤ 9223372036854775806) : ∀ d k i, s.size - i = d → i ≤ s.size → d + l.length + 1 < k → deckleref05_Fine.l0 k s l (i : Int) = some ((s.data.toList.drop i).all lt_ && !hasC l s) := by
  intro d
  induction d with
  | zero =>
    intro k i hd hi hk
    obtain ⟨k, rfl⟩ : ∃ q, k = q + 1 := ⟨k - 1, by omega⟩
    rw [deckleref05_Fine.l0, if_neg (by omega), List.drop_eq_nil_of_le (by rw [data_length]; omega)]
    have := fine1 s l hl l.length k 0 (by omega) (by omega) (by omega)
    rw [show ((0 : Nat) : Int) = 0 from rfl] at this
    rw [this]; simp
  | succ d ih =>
    intro k i hd hi hk
    obtain ⟨k, rfl⟩ : ∃ q, k = q + 1 := ⟨k - 1, by omega⟩
    have hlt : i < s.size := by omega
    have hb := lt_bt s hlt
    have step := ih k (i + 1) (by omega) (by omega) (by omega)
    rw [deckleref05_Fine.l0, if_pos (by omega), if_pos (by omega), ScG.w64 (n := (i : Int) + 1) (by omega) (by omega), str_drop s hlt, List.all_cons, hb]
    rw [show ((i + 1 : Nat) : Int) = (i : Int) + 1 from by omega] at step
    rw [step]
    generalize bt s (i : Int) = z
    by_cases c : (97 ≤ z ∧ z ≤ 122 ∨ 48 ≤ z ∧ z ≤ 57 ∨ z = 95)
    · rw [decide_eq_true c, Bool.true_and]
      (repeat' split) <;> first | rfl | omega
    · rw [decide_eq_false c, Bool.false_and, Bool.false_and]
      (repeat' split) <;> first | rfl | omega
theorem rfine (s : ByteArray) (l : List Col) (hl : l.length ≤ 9223372036854775806) (hs : s.size ≤ 9223372036854775806) (k : Nat) (hk : s.size + l.length + 1 < k) : deckleref05_Fine.f k s l = some (fine (nms l) s) := by
  unfold deckleref05_Fine.f fine
  by_cases h : s.size = 0
  · have e : s.toList = [] := by rw [str_toList, ← List.length_eq_zero_iff, data_length]; exact h
    rw [if_pos e]; simp [h]
  · rw [if_neg (ne_empty h)]
    have := fine0 s l hl hs s.size k 0 (by omega) (by omega) hk
    rw [show ((0 : Nat) : Int) = 0 from rfl] at this
    rw [this, hasC_nms, List.drop_zero]
    simp [h, lts]
theorem rck0 (l : List Col) (hl : l.length ≤ 8) : ∀ d k j, l.length - j = d → j ≤ l.length → d + 50 < k → deckleref05_Check.l0 k l (j : Int) = some (scan (nms (l.take j)) (l.drop j)) := by
  intro d
  induction d with
  | zero =>
    intro k j hd hj hk
    obtain ⟨k, rfl⟩ : ∃ q, k = q + 1 := ⟨k - 1, by omega⟩
    rw [deckleref05_Check.l0, if_neg (by omega), List.drop_eq_nil_of_le (by omega)]; rfl
  | succ d ih =>
    intro k j hd hj hk
    obtain ⟨k, rfl⟩ : ∃ q, k = q + 1 := ⟨k - 1, by omega⟩
    have hlt : j < l.length := by omega
    rw [deckleref05_Check.l0, if_pos (by omega), if_pos (by omega), scan_drop hlt]
    obtain ⟨c, hc⟩ : ∃ c, rd_T53 l (j : Int) = c := ⟨_, rfl⟩
    have hnm := nms_take hlt
    rw [hc] at hnm ⊢
    by_cases h1 : 32 < c.f0.size
    · rw [if_pos (by omega), if_pos h1]
    rw [if_neg (by omega), if_neg h1, if_pos (by omega), Int.toNat_natCast, rfine c.f0 (l.take j) (by rw [List.length_take]; omega) (by omega) k (by rw [List.length_take]; omega)]
    rw [Option.bind_some]
    cases hf : fine (nms (l.take j)) c.f0
    · rw [if_neg (by decide), if_pos rfl]
    rw [if_pos rfl, if_neg (show ¬ (true = false) from Bool.noConfusion)]
    by_cases h3 : 0 ≤ c.f1 ∧ c.f1 < 6
    · rw [if_neg (show ¬ c.f1 < 0 by omega), if_neg (show ¬ c.f1 > 5 by omega), if_neg (not_not_intro h3), ScG.w64 (n := (j : Int) + 1) (by omega) (by omega), ← hnm]
      exact ih k (j + 1) (by omega) (by omega) (by omega)
    · rw [if_pos h3]
      by_cases h4 : c.f1 < 0
      · rw [if_pos h4]
      · rw [if_neg h4, if_pos (by omega)]
theorem rck (l : List Col) : deckleref05_Check.f 64 l = some (sck l) := by
  unfold deckleref05_Check.f sck
  by_cases h1 : l.length = 0
  · rw [if_pos (by omega), if_pos h1]
  rw [if_neg (by omega), if_neg h1]
  by_cases h2 : 8 < l.length
  · rw [if_pos (by omega), if_pos h2]
  rw [if_neg (by omega), if_neg h2]
  have := rck0 l (by omega) l.length 64 0 (by omega) (by omega) (by omega)
  rw [show ((0 : Nat) : Int) = 0 from rfl] at this
  exact this
theorem rck_calls {A : Option Addr} {c : Nat} {l : List Col} (w : World) (hr : Kd.C k53 w A l.length l) (hc : l.length ≤ c) :
    Calls Tryd.prog 33 #[.slice A l.length c] w fun e w' => e = .returned (.int .i64 (sck l)) ∧ Below w.heap.size w w' :=
  (deckleref05_Check.calls 64 A c l _ w hr hc (rck l)).mono (by rintro e w' ⟨h, q⟩; exact ⟨h, q.below⟩)
theorem rsame0 (l m : List Col) (hl : l.length = m.length) (hm : l.length ≤ 9223372036854775806) : ∀ d k j, l.length - j = d → j ≤ l.length → d < k → deckleref05_Same.l0 k l m (j : Int) = some (eqs (l.drop j) (m.drop j)) := by
  intro d
  induction d with
  | zero =>
    intro k j hd hj hk
    obtain ⟨k, rfl⟩ : ∃ q, k = q + 1 := ⟨k - 1, by omega⟩
    rw [deckleref05_Same.l0, if_neg (by omega), List.drop_eq_nil_of_le (by omega), List.drop_eq_nil_of_le (by omega)]; rfl
  | succ d ih =>
    intro k j hd hj hk
    obtain ⟨k, rfl⟩ : ∃ q, k = q + 1 := ⟨k - 1, by omega⟩
    rw [deckleref05_Same.l0, if_pos (by omega), if_pos (by omega), if_pos (by omega), eqs_drop (by omega) (by omega)]
    unfold colEq
    rw [str_toList, str_toList, ScG.w64 (n := (j : Int) + 1) (by omega) (by omega)]
    generalize ((rd_T53 l (j : Int)).f0.data.toList == (rd_T53 m (j : Int)).f0.data.toList) = p
    generalize ((rd_T53 l (j : Int)).f1 == (rd_T53 m (j : Int)).f1) = q
    have := ih k (j + 1) (by omega) (by omega) (by omega)
    rw [show ((j + 1 : Nat) : Int) = (j : Int) + 1 from by omega] at this
    rw [this]
    cases p <;> cases q <;> simp
theorem rsame (l m : List Col) (hm : l.length ≤ 9223372036854775806) : deckleref05_Same.f (l.length + 1) l m = some (eqs l m) := by
  unfold deckleref05_Same.f
  by_cases h : l.length = m.length
  · rw [if_pos (by omega)]
    have := rsame0 l m h hm l.length (l.length + 1) 0 (by omega) (by omega) (by omega)
    rw [show ((0 : Nat) : Int) = 0 from rfl] at this
    exact this
  · rw [if_neg (by omega), eqs_len h]
theorem rsame_calls {A A' : Option Addr} {c c' : Nat} {l l' : List Col} (w : World) (hr : Kd.C k53 w A l.length l) (hc : l.length ≤ c) (hr' : Kd.C k53 w A' l'.length l') (hc' : l'.length ≤ c') (hm : l.length ≤ 9223372036854775806) :
    Calls Tryd.prog 11 #[.slice A l.length c, .slice A' l'.length c'] w fun e w' => e = .returned (.bool (eqs l l')) ∧ Below w.heap.size w w' :=
  (deckleref05_Same.calls (l.length + 1) A c l A' c' l' _ w hr hc hr' hc' (rsame l l' hm)).mono (by rintro e w' ⟨h, q⟩; exact ⟨h, q.below⟩)
end Go.Proofs.YtciolchdihlgfaaDoor.Sc
/-! Schema: the document's Write, Print. -/
namespace Go.Proofs.YtciolchdihlgfaaDoor.Sc
open Go.RowKit Go.Proofs.YtciolchdihlgfaaDoorW.PrintWords Go.Proofs.YtciolchdihlgfaaDoorW.PrintLast Go.Proofs.YtciolchdihlgfaaDoorW.PrintMore Go.Proofs.YtciolchdihlgfaaDoor.Wire Go.Proofs.YtciolchdihlgfaaDoor.PSc Go.Proofs.YtciolchdihlgfaaDoor.Co Go.Proofs.YtciolchdihlgfaaDoor.Ce
set_option linter.unusedVariables false
set_option linter.unusedSimpArgs false
set_option maxRecDepth 100000
end Go.Proofs.YtciolchdihlgfaaDoor.Sc
/-! Schema: Text, and the document's. -/
namespace Go.Proofs.YtciolchdihlgfaaDoor.Sc
open Go.RowKit Go.Proofs.YtciolchdihlgfaaDoorW.PrintWords Go.Proofs.YtciolchdihlgfaaDoorW.PrintLast Go.Proofs.YtciolchdihlgfaaDoorW.PrintMore Go.Proofs.YtciolchdihlgfaaDoor.Wire Go.Proofs.YtciolchdihlgfaaDoor.PSc Go.Proofs.YtciolchdihlgfaaDoor.Co Go.Proofs.YtciolchdihlgfaaDoor.Ce
set_option linter.unusedVariables false
set_option linter.unusedSimpArgs false
set_option maxRecDepth 100000
/-- A kind's name. -/
def kname (k : Int) : ByteArray := NAMES.getD k.toNat ByteArray.empty
/-- A column's text. -/
def colTx (c : Col) : List UInt8 := c.f0.data.toList ++ 58 :: (kname c.f1).data.toList
def colS (c : Col) : ByteArray := (c.f0 ++ ⟨#[58]⟩) ++ kname c.f1
theorem colS_list (c : Col) : (colS c).data.toList = colTx c := by
  unfold colS colTx
  rw [ByteArray.data_append, ByteArray.data_append, Array.toList_append, Array.toList_append, List.append_assoc]; rfl
def txL (l : List Col) : List UInt8 := Lib.join (l.map colTx) [44]
/-- The text of columns that may be. -/
def txt (l : List Col) : ByteArray := ⟨(txL l).toArray⟩
def stxt (l : List Col) : ByteArray := if sck l = 0 then txt l else ⟨#[]⟩
theorem txL_snoc (l : List Col) (c : Col) : txL (l ++ [c]) = (if 0 < l.length then txL l ++ [44] else txL l) ++ colTx c := by
  unfold txL
  cases l with
  | nil => simp [Lib.join_one, Lib.join_nil]
  | cons x r =>
    rw [if_pos (by simp), List.map_append, List.map_cons, List.cons_append, Lib.join_cons, Lib.join_cons]
    have : Lib.joinTail [44] (r.map colTx ++ [c].map colTx) = Lib.joinTail [44] (r.map colTx) ++ [44] ++ colTx c := by
      unfold Lib.joinTail
      simp
    rw [this]; simp
theorem kname_len (k : Int) : (kname k).size ≤ 5 := by
  unfold kname
  rw [List.getD_eq_getElem?_getD]
  cases e : NAMES[k.toNat]? with
  | none => exact Nat.zero_le _
  | some x =>
    have := List.mem_of_getElem? e
    have all : ∀ y ∈ NAMES, y.size ≤ 5 := by decide
    exact all x this
theorem colTx_len (c : Col) : (colTx c).length ≤ c.f0.size + 6 := by
  unfold colTx
  rw [List.length_append, List.length_cons, data_length, data_length]
  have := kname_len c.f1
  omega
theorem txL_len : ∀ n (l : List Col), l.length = n → (∀ c ∈ l, c.f0.size ≤ 32) → (txL l).length ≤ 39 * n
  | 0, l, hn, _ => by rw [List.length_eq_zero_iff.1 hn]; exact Nat.zero_le _
  | n + 1, l, hn, h => by
    have hne : l ≠ [] := fun e => by rw [e] at hn; simp at hn
    have e := List.dropLast_concat_getLast hne
    rw [← e, txL_snoc, List.length_append]
    have h1 := txL_len n l.dropLast (by rw [List.length_dropLast]; omega) (fun c hc => h c (List.dropLast_subset _ hc))
    have h2 := colTx_len (l.getLast hne)
    have h3 := h _ (List.getLast_mem hne)
    split
    · rw [List.length_append]; simp only [List.length_cons, List.length_nil]; omega
    · omega
theorem take_snoc {l : List Col} {j : Nat} (h : j < l.length) : l.take (j + 1) = l.take j ++ [rd_T53 l (j : Int)] := by
  rw [List.take_add_one, List.getElem?_eq_getElem h, rd_get h]; rfl
theorem str_add (a b : ByteArray) (h : a.size + b.size ≤ 9223372036854775807) : Op.stringOp .add a b = pure (.string (a ++ b)) := by
  have h : ¬ (((a.size + b.size : Nat) : Int) > IntKind.i64.max) := by rw [show IntKind.i64.max = 9223372036854775807 from rfl]; omega
  exact if_neg h
theorem ba_eq (s : ByteArray) (l : List UInt8) (h : s.data.toList = l) : s = ⟨l.toArray⟩ := by
  refine ByteArray.ext (Array.toList_inj.1 ?_)
  rw [h]
theorem infoS : (Tryd.prog.info? 9).map (fun i => (i.zero, i.size, i.bytes)) = some (some (.string ⟨#[]⟩), 1, 16) := by kernel_rfl
theorem lit1s {w : World} {g : Nat} {z : ByteArray} {t : TypeId} (h : w.heap[g]? = some (.cells #[.string z] t (0, 0))) : Kd.C Kd.string w (some ⟨g, 0, none⟩) 1 [z] := by
  refine Kd.C_of_reads (d := ByteArray.empty) (h1 := fun _ => rfl) ⟨rfl, by omega, fun _ => ⟨_, rfl, fun j hj => ?_⟩⟩
  obtain rfl : j = 0 := by omega
  rw [add_plain, blk_cell h]
  rfl
theorem cell_keep {w w' : World} {p : Addr} {v : Value} (h : w.cell? p = some v) (hb : Below w.heap.size w w') : w'.cell? p = some v := (Below.cell hb (cell_lt h)).trans h
theorem join_txL (l : List Col) : Lib.join ((l.map colS).map (·.data.toList)) (⟨#[44]⟩ : ByteArray).data.toList = txL l := by
  unfold txL
  rw [List.map_map, show ((·.data.toList) ∘ colS) = colTx from funext colS_list]
theorem txt_join (l : List Col) : (⟨(Lib.join ((l.map colS).map (·.data.toList)) (⟨#[44]⟩ : ByteArray).data.toList).toArray⟩ : ByteArray) = txt l := by
  rw [join_txL]; rfl
set_option maxHeartbeats 16000000 in
theorem stext_calls {A : Option Addr} {c : Nat} {l : List Col} (w : World) (hN : NamesW w) (hr : Kd.C k53 w A l.length l) (hc : l.length ≤ c) (hs : ∀ i, (rd_T53 l i).f0.size ≤ 9223372036854775807) :
    Calls Tryd.prog 14 #[.slice A l.length c] w fun e w' => e = .returned (.tuple #[.string (stxt l), .int .i64 (sck l)]) ∧ Below w.heap.size w w' := by
  have HCK := Aside0.mk (scheck_calls w hN hr hc hs)
  have HR := Aside0.mk hr
  have HNW := Aside0.mk hN
  unfold stxt
  obtain ⟨k, hk⟩ : ∃ k, sck l = k := ⟨_, rfl⟩
  rw [hk] at HCK ⊢
  by_cases h0 : k ≠ 0
  · have t1 : (k != 0) = true := bne_iff_ne.mpr h0
    rw [if_neg h0]
    clear hN hr hc hs hk h0 HR
    go_enter Tryd.func14, Tryd.ntmps14
    go_wp2_with fail
    refine HCK.out.mono ?_
    rintro e w1 ⟨rfl, hb⟩
    have HB := Aside0.mk hb
    clear hb HCK
    go_wp2_with fail
    go_ret2
    exact ⟨rfl, HB.out⟩
  have hk0 : k = 0 := Decidable.not_not.1 h0
  subst hk0
  rw [if_pos rfl]
  obtain ⟨⟨hn0, hn8⟩, hall⟩ := sck_small hk
  have HALL := Aside0.mk hall
  have HN8 := Aside0.mk hn8
  have HN0 := Aside0.mk hn0
  obtain ⟨n, hn⟩ : ∃ n, l.length = n := ⟨_, rfl⟩
  have HN := Aside0.mk hn
  rw [hn] at HCK ⊢
  clear hN hr hc hs hk h0 hn hn0 hn8 hall
  go_enter Tryd.func14, Tryd.ntmps14
  go_wp2_with fail
  refine HCK.out.mono ?_
  rintro e w1 ⟨rfl, hb⟩
  have HB := Aside0.mk hb
  clear hb HCK
  go_wp2_with fail
  go_loopw [5, 7, 15] (fun v u i wr => ∃ j : Nat, j ≤ n ∧ i = .int .i64 (j : Int) ∧ Aside0 (Kd.R Kd.string 9 wr w.heap.size (fun _ => True) v ((l.take j).map colS)) ∧ Aside0 (Below w.heap.size w wr)) (fun _ _ i _ => n - (intOf i).toNat)
  case atStart => exact ⟨0, by omega, rfl, ⟨by rw [List.take_zero]; exact Kd.R_nil _ _ _ _ _⟩, ⟨HB.out⟩⟩
  case round =>
    clear HB
    obtain ⟨j, hj, rfl, HO, HB⟩ := hrel
    by_cases hlt : j < n
    · have u1 : decide ((j : Int) < (n : Int)) = true := decide_eq_true (by omega)
      have u2 : decide (j < n) = true := decide_eq_true hlt
      have HLT := Aside0.mk hlt
      obtain ⟨ad, e, h0, h1⟩ := at_T53 (Kd.C_below HR.out HB.out) (j : Int) (by omega) (by have := HN.out; omega)
      cases e
      rw [Int.toNat_natCast] at h0 h1
      have p1 : (0 ≤ (j : Int)) = True := eq_true (by omega)
      have p2 : ((j : Int) < (n : Int)) = True := eq_true (by omega)
      have HMX := Aside0.mk (show (j : Int) + 1 ≤ 9223372036854775807 by have := HN8.out; have := HN.out; omega)
      have HTX := Aside0.mk (show (l.take (j + 1)).map colS = (l.take j).map colS ++ [colS (rd_T53 l (j : Int))] from by rw [take_snoc (by have := HN.out; omega), List.map_append]; rfl)
      have HC := Aside0.mk (HALL.out _ (rd_mem (l := l) (j := j) (by have := HN.out; omega)))
      have HPL := Aside0.mk (show ((l.take j).map colS).length ≤ 8 from by rw [List.length_map, List.length_take]; have := HN8.out; have := HN.out; omega)
      obtain ⟨C, hC⟩ : ∃ C, rd_T53 l (j : Int) = C := ⟨_, rfl⟩
      rw [hC] at h0 h1 HTX HC
      obtain ⟨s, kd⟩ := C
      simp only at h0 h1 HC
      obtain ⟨kn, rfl⟩ : ∃ kn : Nat, kd = (kn : Int) := ⟨kd.toNat, by have := HC.out; omega⟩
      obtain ⟨A5, c5, rfl⟩ := Kd.R_slice HO.out
      obtain ⟨pre, hpre⟩ : ∃ pre, (l.take j).map colS = pre := ⟨_, rfl⟩
      rw [hpre] at HO HPL HTX ⊢
      clear hj hlt hC hpre
      go_wp2_with fail
      clear u1 u2 p1 p2
      have hbA := below_drew1 (below_alloc (Below.refl wr.heap.size wr) (.cells #[.string s, .int .i64 (kn : Int)] 53))
      have BX := Aside0.mk (show (wr.alloc (.cells #[.string s, .int .i64 (kn : Int)] 53)).drew.heap[wr.heap.size]? = some (.cells #[.string s, .int .i64 (kn : Int)] 53 (0, 0)) from heap_alloc_new wr _)
      replace HO := Aside0.mk (Kd.R_below HO.out hbA)
      replace HB := Aside0.mk (below_step HB.out hbA)
      have p3 : ((kn : Int) < 6) = True := eq_true (by have := HC.out; omega)
      have p4 : (kn < 6) = True := eq_true (by have := HC.out; omega)
      have p5 : (0 ≤ (kn : Int)) = True := eq_true (by omega)
      have a2 := str_add s ⟨#[58]⟩ (by have := HC.out; have e : (⟨#[58]⟩ : ByteArray).size = 1 := rfl; omega)
      have a3 := str_add (s ++ ⟨#[58]⟩) (kname (kn : Int)) (by rw [ByteArray.size_append]; have := HC.out; have := kname_len (kn : Int); have e : (⟨#[58]⟩ : ByteArray).size = 1 := rfl; omega)
      clear h0 h1 hbA
      refine start_ (n := 13) (S := fun w' => w'.cell? ⟨wr.heap.size, 0, none⟩ = some (.string s) ∧ w'.cell? ⟨wr.heap.size, 1, none⟩ = some (.int .i64 (kn : Int))) (ds := []) #[false, false, false, false, false, false, false, false, false, false, false, false, false] (by kernel_rfl) rfl rfl ⟨(blk_cell BX.out 0).trans rfl, (blk_cell BX.out 1).trans rfl⟩ (fun hHeld => ?_)
      generalize (wr.alloc (.cells #[.string s, .int .i64 (kn : Int)] 53)).drew = W at *
      refine pure_ (i := 0) (N := some 19) (v := ?_) (a' := ?_) #[true, false, false, false, false, false, false, false, false, false, false, false, false] rfl rfl (any_of rfl (by kernel_rfl)) (fun _ _ _ h => h) (Or.inl ⟨by rfl, ?_⟩) ?_ ?_
      rotate_left
      · intro w'
        go_simp
        with_reducible rfl
      rotate_left
      · simp only [Act.put, List.setIfInBounds_toArray, List.set_cons_zero, List.set_cons_succ, i64_w, i32_w]
        rfl
      refine pure_ (i := 1) (N := some 20) (v := ?_) (a' := ?_) #[true, true, false, false, false, false, false, false, false, false, false, false, false] rfl rfl (any_of rfl (by kernel_rfl)) (fun _ _ _ h => h) (Or.inl ⟨by rfl, ?_⟩) ?_ ?_
      rotate_left
      · intro w'
        go_simp
        with_reducible rfl
      rotate_left
      · simp only [Act.put, List.setIfInBounds_toArray, List.set_cons_zero, List.set_cons_succ, i64_w, i32_w]
        rfl
      refine pure_ (i := 5) (N := some 24) (v := ?_) (a' := ?_) #[true, true, false, false, false, true, false, false, false, false, false, false, false] rfl rfl (any_of rfl (by kernel_rfl)) (fun _ _ _ h => h) (Or.inl ⟨by rfl, ?_⟩) ?_ ?_
      rotate_left
      · intro w'
        go_simp
        with_reducible rfl
      rotate_left
      · simp only [Act.put, List.setIfInBounds_toArray, List.set_cons_zero, List.set_cons_succ, i64_w, i32_w]
        rfl
      refine take_ (i := 2) (N := some 21) (v := ?_) (a' := ?_) #[true, true, true, false, false, true, false, false, false, false, false, false, false] rfl rfl (take_of rfl (by kernel_rfl)) (fun _ _ _ h => h) (Or.inl ⟨by rfl, ?_⟩) hHeld ?_ ?_
      rotate_left
      · rintro w' ⟨s0, s1⟩
        go_simp
        with_reducible rfl
      rotate_left
      · simp only [Act.put, List.setIfInBounds_toArray, List.set_cons_zero, List.set_cons_succ, i64_w, i32_w]
        rfl
      refine take_ (i := 6) (N := some 25) (v := ?_) (a' := ?_) #[true, true, true, false, false, true, true, false, false, false, false, false, false] rfl rfl (take_of rfl (by kernel_rfl)) (fun _ _ _ h => h) (Or.inl ⟨by rfl, ?_⟩) hHeld ?_ ?_
      rotate_left
      · rintro w' ⟨s0, s1⟩
        go_simp
        with_reducible rfl
      rotate_left
      · simp only [Act.put, List.setIfInBounds_toArray, List.set_cons_zero, List.set_cons_succ, i64_w, i32_w]
        rfl
      refine pure_ (i := 3) (N := some 22) (v := ?_) (a' := ?_) #[true, true, true, true, false, true, true, false, false, false, false, false, false] rfl rfl (any_of rfl (by kernel_rfl)) (fun _ _ _ h => h) (Or.inl ⟨by rfl, ?_⟩) ?_ ?_
      rotate_left
      · intro w'
        go_simp
        with_reducible rfl
      rotate_left
      · simp only [Act.put, List.setIfInBounds_toArray, List.set_cons_zero, List.set_cons_succ, i64_w, i32_w]
        rfl
      refine one_ (i := 4) (N := some 23) #[true, true, true, true, true, true, true, false, false, false, false, false, false] rfl rfl (one_of rfl (by kernel_rfl)) (by decide) (fun K hK => ?_)
      refine goes_ Tryd.func30 (by kernel_rfl) rfl #[] (by rfl) rfl rfl (by first | rfl | (simp; done)) ?_
      refine (names_calls W (HNW.out.below HB.out)).mono ?_
      rintro e w2 ⟨v2, rfl, hv, hb⟩
      refine ⟨_, rfl, ?_⟩
      obtain ⟨g3, cap3, rfl, -, -, -⟩ := Kd.R_form hv (by decide)
      have hC3 : Kd.C Kd.string w2 (some ⟨g3, 0, none⟩) 6 NAMES := (Kd.R_reads' hv).2.2
      rw [show NAMES.length = 6 from rfl]
      replace BX := Aside0.mk (blk_below BX.out hb)
      replace HO := Aside0.mk (Kd.R_below HO.out hb)
      refine hK.out _ _ ⟨(blk_cell BX.out 0).trans rfl, (blk_cell BX.out 1).trans rfl⟩ (fun hHeld => ?_)
      clear hK K
      refine norm_ (a' := ?_) ?_ ?_
      rotate_left
      · show Act.put _ (some 23) _ = _
        simp only [Act.put, List.setIfInBounds_toArray, List.set_cons_zero, List.set_cons_succ, i64_w, i32_w]
        rfl
      replace HB := Aside0.mk (below_step HB.out hb)
      obtain ⟨z3, hz3, r3⟩ := (Kd.reads_of_C (d := ByteArray.empty) hC3).2.2 (by omega)
      obtain rfl : (⟨g3, 0, none⟩ : Addr) = z3 := Option.some.inj hz3
      have hk3 : w2.cell? ⟨g3, kn, none⟩ = some (.string (kname (kn : Int))) := by
        have := r3 kn (by have := HC.out; omega)
        rw [add_plain] at this
        unfold kname
        rw [Int.toNat_natCast]; exact this
      clear hv r3 hz3 hC3 hb
      refine pure_ (i := 7) (N := some 26) (v := ?_) (a' := ?_) #[true, true, true, true, true, true, true, true, false, false, false, false, false] rfl rfl (any_of rfl (by kernel_rfl)) (fun _ _ _ h => h) (Or.inl ⟨by rfl, ?_⟩) ?_ ?_
      rotate_left
      · intro w'
        go_simp
        with_reducible rfl
      rotate_left
      · simp only [Act.put, List.setIfInBounds_toArray, List.set_cons_zero, List.set_cons_succ, i64_w, i32_w]
        rfl
      refine one_ (i := 8) (N := some 27) #[true, true, true, true, true, true, true, true, true, false, false, false, false] rfl rfl (one_of rfl (by kernel_rfl)) (by decide) (fun K hK => ?_)
      refine value_ (v := .string (kname (kn : Int))) (w1 := w2) (by rfl) rfl (by go_simp) ?_
      refine hK.out _ _ ⟨(blk_cell BX.out 0).trans rfl, (blk_cell BX.out 1).trans rfl⟩ (fun hHeld => ?_)
      clear hK K
      refine norm_ (a' := ?_) ?_ ?_
      rotate_left
      · show Act.put _ (some 27) _ = _
        simp only [Act.put, List.setIfInBounds_toArray, List.set_cons_zero, List.set_cons_succ, i64_w, i32_w]
        rfl
      refine pure_ (i := 9) (N := some 28) (v := ?_) (a' := ?_) #[true, true, true, true, true, true, true, true, true, true, false, false, false] rfl rfl (any_of rfl (by kernel_rfl)) (fun _ _ _ h => h) (Or.inl ⟨by rfl, ?_⟩) ?_ ?_
      rotate_left
      · intro w'
        go_simp
        with_reducible rfl
      rotate_left
      · simp only [Act.put, List.setIfInBounds_toArray, List.set_cons_zero, List.set_cons_succ, i64_w, i32_w]
        rfl
      have hbA := below_alloc (Below.refl w2.heap.size w2) (.cells #[.string (s ++ ⟨#[58]⟩ ++ kname (kn : Int))] 9)
      have H9 := Aside0.mk (heap_alloc_new w2 (.cells #[.string (s ++ ⟨#[58]⟩ ++ kname (kn : Int))] 9))
      refine one_ (i := 10) (N := some 29) #[true, true, true, true, true, true, true, true, true, true, true, false, false] rfl rfl (one_of rfl (by kernel_rfl)) (by decide) (fun K hK => ?_)
      refine value_ (v := .slice (some ⟨w2.heap.size, 0, none⟩) 1 1) (w1 := w2.alloc (.cells #[.string (s ++ ⟨#[58]⟩ ++ kname (kn : Int))] 9)) (by rfl) rfl (by go_simp) ?_
      replace BX := Aside0.mk (blk_below BX.out hbA)
      replace HO := Aside0.mk (Kd.R_below HO.out hbA)
      replace HB := Aside0.mk (below_step HB.out hbA)
      generalize w2.alloc (.cells #[.string (s ++ ⟨#[58]⟩ ++ kname (kn : Int))] 9) = W3 at *
      refine hK.out _ _ ⟨(blk_cell BX.out 0).trans rfl, (blk_cell BX.out 1).trans rfl⟩ (fun hHeld => ?_)
      clear hK K
      refine norm_ (a' := ?_) ?_ ?_
      rotate_left
      · show Act.put _ (some 29) _ = _
        simp only [Act.put, List.setIfInBounds_toArray, List.set_cons_zero, List.set_cons_succ, i64_w, i32_w]
        rfl
      refine one_ (i := 11) (N := some 30) #[true, true, true, true, true, true, true, true, true, true, true, true, false] rfl rfl (one_of rfl (by kernel_rfl)) (by decide) (fun K hK => ?_)
      refine Kd.R_append_rows_step Kd.string (w0 := w) w.heap.size (by rfl) (.tmp 19) (.tmp 29) 64 9 (.string ⟨#[]⟩) 16 rfl Tryd.underlying64 infoS rfl (by decide) (by omega) _ pre [s ++ ⟨#[58]⟩ ++ kname (kn : Int)] (some ⟨w2.heap.size, 0, none⟩) 1 1 (fun _ => True) (fun _ => False) rfl rfl HO.out (lit1s H9.out) (fun _ _ h => h) (fun _ h => h.elim) (fun _ _ => trivial) HB.out HB.out.size (by have := HPL.out; first | omega | (simp; omega)) ?_
      intro v9 U9 ho hb hg hat
      replace BX := Aside0.mk (blk_grown BX.out hg (Kd.R_ne HO.out BX.out (by decide)))
      refine hK.out _ _ ⟨(blk_cell BX.out 0).trans rfl, (blk_cell BX.out 1).trans rfl⟩ (fun _ => ?_)
      clear hK K
      refine norm_ (a' := ?_) ?_ ?_
      rotate_left
      · show Act.put _ (some 30) _ = _
        simp only [Act.put, List.setIfInBounds_toArray, List.set_cons_zero, List.set_cons_succ, i64_w, i32_w]
        rfl
      refine pure_ (i := 12) (N := some 5) (v := ?_) (a' := ?_) #[true, true, true, true, true, true, true, true, true, true, true, true, true] rfl rfl (any_of rfl (by kernel_rfl)) (fun _ _ _ h => h) (Or.inl ⟨by rfl, ?_⟩) ?_ ?_
      rotate_left
      · intro w'
        go_simp
        with_reducible rfl
      rotate_left
      · simp only [Act.put, List.setIfInBounds_toArray, List.set_cons_zero, List.set_cons_succ, i64_w, i32_w]
        rfl
      refine done_ (done_of rfl (by kernel_rfl)) ?_
      have HO3 := Aside0.mk ho
      have HB3 := Aside0.mk hb
      have hmax := HMX.out
      clear ho hb hg hat hHeld a2 a3 p3 p4 p5 hk3 hbA
      go_wp2_with fail
      go_roundw
      case rel => exact ⟨j + 1, HLT.out, by go_num, ⟨by rw [HTX.out]; exact HO3.out⟩, ⟨HB3.out⟩⟩
      case measure => have := HLT.out; simp [intOf]; omega
    · have u1 : decide ((j : Int) < (n : Int)) = false := decide_eq_false (by omega)
      have u2 : decide (j < n) = false := decide_eq_false hlt
      have hfin : (l.take j).map colS = l.map colS := by rw [List.take_of_length_le (by have := HN.out; omega)]
      rw [hfin] at HO
      have hln : (l.map colS).length = n := by rw [List.length_map]; exact HN.out
      obtain ⟨g3, cap3, rfl, -, -, -⟩ := Kd.R_form HO.out (by rw [hln]; have := HN0.out; have := HN.out; omega)
      obtain ⟨hcl, hcp, hC⟩ := Kd.R_reads' HO.out
      obtain ⟨z3, hz3, r3⟩ := (Kd.reads_of_C (d := ByteArray.empty) hC).2.2 (by rw [hln]; have := HN0.out; have := HN.out; omega)
      obtain rfl : (⟨g3, 0, none⟩ : Addr) = z3 := Option.some.inj hz3
      have hJ := Tryd.strings_Join g3 0 cap3 (l.map colS) ⟨#[44]⟩ wr (fun i x hx => by
        have hi : i < (l.map colS).length := by
          rcases Nat.lt_or_ge i (l.map colS).length with h | h
          · exact h
          · rw [List.getElem?_eq_none h] at hx; cases hx
        have := r3 i hi
        rw [add_plain] at this
        rw [Nat.zero_add, this, List.getD_eq_getElem?_getD, hx]; rfl) (by
        have := r3 0 (by rw [hln]; have := HN0.out; have := HN.out; omega)
        exact cell_lt this) (by rw [hln]; have := HN8.out; have := HN.out; omega) (by first | exact hcp | omega) (by
        rw [join_txL]
        have := txL_len n l HN.out (fun c hc => (HALL.out c hc).1)
        have := HN8.out; have := HN.out; omega)
      rw [txt_join, hln] at hJ
      have HJ := Aside0.mk hJ
      rw [hln]
      clear hj hlt hfin hln hcl hcp hC hz3 r3 hJ HO
      go_wp2_with fail
      refine HJ.out.mono ?_
      rintro e w3 ⟨rfl, hb⟩
      have HB2 := Aside0.mk (below_step HB.out hb)
      clear hb
      go_wp2_with fail
      go_ret2
      exact ⟨rfl, HB2.out⟩
end Go.Proofs.YtciolchdihlgfaaDoor.Sc
