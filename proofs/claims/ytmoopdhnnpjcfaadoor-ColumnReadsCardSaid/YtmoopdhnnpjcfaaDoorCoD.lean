import Derived.Test.YtmoopdhnnpjcfaaDoorCoBB
import Derived.Laws.EntriesVeiled
/-! Column: the kinds; what is written of numbers; Write. -/
namespace Go.Proofs.YtmoopdhnnpjcfaaDoor.Co
open Go.RowKit Go.Proofs.YtmoopdhnnpjcfaaDoorW.PrintWords Go.Proofs.YtmoopdhnnpjcfaaDoorW.PrintLast Go.Proofs.YtmoopdhnnpjcfaaDoorW.PrintMore Go.Proofs.YtmoopdhnnpjcfaaDoor.Wire Go.Proofs.YtmoopdhnnpjcfaaDoor.PCo Go.Proofs.YtmoopdhnnpjcfaaDoor.CoG
set_option linter.unusedVariables false
set_option linter.unusedSimpArgs false
set_option maxRecDepth 100000
abbrev fnv (f : Nat) : Value := .func (.func f) #[] #[]
set_option maxHeartbeats 2000000 in
theorem kinds_calls (w : World) : Calls Tryd.prog 66 #[] w fun e w' => e = .returned (.agg #[fnv 114, fnv 115, fnv 112, fnv 113, fnv 116, fnv 117, fnv 108, fnv 109, fnv 108, fnv 111, fnv 112, fnv 113]) ∧ Below w.heap.size w w' := by
  go_enter Tryd.func66, Tryd.ntmps66
  go_wp2
  refine bodyPost_ret (v := .agg #[fnv 114, fnv 115, fnv 112, fnv 113, fnv 116, fnv 117, fnv 108, fnv 109, fnv 108, fnv 111, fnv 112, fnv 113]) (by simp [results, Tryd.results66, go_sem]) rfl ⟨rfl, ?_⟩
  repeat (first | exact Below.refl _ _ | apply below_alloc)
theorem kindly_calls (k : Int) (w : World) : Calls Tryd.prog 65 #[.int .i64 k] w fun e w' => e = .returned (.bool (decide (0 ≤ k ∧ k ≤ 5))) ∧ Below w.heap.size w w' := by
  by_cases h0 : 0 ≤ k
  · have t1 : decide (0 ≤ k) = true := decide_eq_true h0
    have HE := Aside0.mk (show decide (0 ≤ k ∧ k ≤ 5) = decide (k < 6) from by by_cases h : k < 6 <;> simp [h, h0] <;> omega)
    rw [HE.out]
    clear h0
    go_enter Tryd.func65, Tryd.ntmps65
    go_wp2_with fail
    refine (kinds_calls _).mono ?_
    rintro e w1 ⟨rfl, b1⟩
    go_wp2
    go_ret
    exact ⟨rfl, b1⟩
  · have t1 : decide (0 ≤ k) = false := decide_eq_false h0
    rw [show decide (0 ≤ k ∧ k ≤ 5) = false from decide_eq_false (fun z => h0 z.1)]
    clear h0
    go_enter Tryd.func65, Tryd.ntmps65
    go_wp2
    go_ret
    exact ⟨rfl, Below.refl _ _⟩
/-! numbers behind one another -/
def dlt (a b : Int) : List Int := uv (zigS (wrap64 (IntKind.u64.wrap (b - a)))).toNat
/-- What is written behind the number 'last', of the cells from place i on, up to j of them. -/
def nbs (l : List S47) (last : Int) (i : Nat) : Nat → List Int
  | 0 => []
  | j + 1 => nbs l last i j ++ dlt (if j = 0 then last else nm l (i + j - 1)) (nm l (i + j))
theorem wrap64_range (x : Int) : -9223372036854775808 ≤ wrap64 x ∧ wrap64 x ≤ 9223372036854775807 := by unfold wrap64; omega
theorem dlt_len (a b : Int) : (dlt a b).length ≤ 10 := by
  have h := wrap64_range (IntKind.u64.wrap (b - a))
  have hz := zig_range h.1 h.2
  exact usz_le10 (by omega)
theorem nbs_len (l : List S47) (last : Int) (i j : Nat) : (nbs l last i j).length ≤ 10 * j := by
  induction j with
  | zero => exact Nat.le_refl _
  | succ j ih => rw [nbs, List.length_append]; have := dlt_len (if j = 0 then last else nm l (i + j - 1)) (nm l (i + j)); omega
theorem rd_drop (l : List S47) (i : Nat) (j : Nat) : rd_T47 (l.drop i) (j : Int) = rd_T47 l ((i + j : Nat) : Int) := by
  unfold rd_T47
  rw [Int.toNat_natCast, Int.toNat_natCast, List.getD_eq_getElem?_getD, List.getD_eq_getElem?_getD, List.getElem?_drop]
theorem behind_loop (l : List S47) (hl : l.length ≤ 1048576) (pre : List Int) (hp : pre.length ≤ 10) (last : Int) (i : Nat) : ∀ d j k, (l.drop i).length - j = d → j ≤ (l.drop i).length → d + 12 < k →
    column_behind.l0 k (pre ++ nbs l last i j) (if j = 0 then last else nm l (i + j - 1)) (l.drop i) ((l.drop i).length : Int) (j : Int) = some (pre ++ nbs l last i (l.drop i).length) := by
  intro d
  induction d with
  | zero =>
    intro j k hd hj hk
    obtain ⟨k, rfl⟩ : ∃ q, k = q + 1 := ⟨k - 1, by omega⟩
    obtain rfl : j = (l.drop i).length := by omega
    rw [column_behind.l0, if_neg (by omega)]
  | succ d ih =>
    intro j k hd hj hk
    obtain ⟨k, rfl⟩ : ∃ q, k = q + 1 := ⟨k - 1, by omega⟩
    have hld : (l.drop i).length ≤ l.length := by rw [List.length_drop]; omega
    have hw := wrap64_range (IntKind.u64.wrap (nm l (i + j) - (if j = 0 then last else nm l (i + j - 1))))
    have hn := nbs_len l last i j
    have hdl := dlt_len (if j = 0 then last else nm l (i + j - 1)) (nm l (i + j))
    rw [column_behind.l0, if_pos (by omega), if_pos (by omega), if_pos (by omega), rd_drop, show (rd_T47 l ((i + j : Nat) : Int)).f0 = nm l (i + j) from rfl, putInt hw.1 hw.2 k (by omega)]
    simp only [Option.bind_some]
    rw [show uv (zigS (wrap64 (IntKind.u64.wrap (nm l (i + j) - (if j = 0 then last else nm l (i + j - 1)))))).toNat = dlt (if j = 0 then last else nm l (i + j - 1)) (nm l (i + j)) from rfl, if_pos (by rw [List.length_append]; omega), w64 (by omega) (by omega), List.append_assoc]
    have := ih (j + 1) k (by omega) (by omega) (by omega)
    rw [if_neg (by omega), show i + (j + 1) - 1 = i + j by omega] at this
    exact this
theorem writeSigned_calls {A : Option Addr} {c : Nat} {l : List S47} (w : World) (hr : Kd.C k47 w A l.length l) (hc : l.length ≤ c) (hs : l.length ≤ 1048576) :
    Calls Tryd.prog 114 #[.slice A l.length c] w fun e w' => ∃ v, e = .returned v ∧ Kd.R (Kd.int .u8) 5 w' w.heap.size (fun _ => True) v (nbs l 0 0 l.length) ∧ Below w.heap.size w w' := by
  refine column_writeSigned.calls (l.length + 20) A c l _ w hr hc ?_
  unfold column_writeSigned.f column_behind.f
  have := behind_loop l hs [] (by simp) 0 0 l.length 0 (l.length + 20) (by simp) (by simp) (by omega)
  simp only [List.drop_zero, if_true, nbs, List.nil_append] at this
  rw [show (0 : Int) = ((0 : Nat) : Int) from rfl] at *
  rw [this]; rfl
def nums (l : List S47) : List Int := if l.length = 0 then [] else uv (nm l 0).toNat ++ nbs l (nm l 0) 1 (l.length - 1)
theorem writeNumbers_calls {A : Option Addr} {c : Nat} {l : List S47} (w : World) (hr : Kd.C k47 w A l.length l) (hc : l.length ≤ c) (hs : l.length ≤ 1048576) (hn : 0 ≤ nm l 0 ∧ nm l 0 < 18446744073709551616) :
    Calls Tryd.prog 112 #[.slice A l.length c] w fun e w' => ∃ v, e = .returned v ∧ Kd.R (Kd.int .u8) 5 w' w.heap.size (fun _ => True) v (nums l) ∧ Below w.heap.size w w' := by
  refine column_writeNumbers.calls (l.length + 20) A c l _ w hr hc ?_
  unfold column_writeNumbers.f nums
  by_cases h : l.length = 0
  · rw [if_pos (by omega), if_pos h]
  · obtain ⟨x, hx⟩ := Int.eq_ofNat_of_zero_le hn.1
    have hx' : (rd_T47 l 0).f0 = (x : Int) := hx
    have hu : usz x ≤ 10 := usz_le10 (by omega)
    rw [if_neg (by omega), if_neg h, if_pos (by omega), hx', uint x (by omega) _ (by omega)]
    simp only [Option.bind_some]
    have hb := behind_loop l hs (uv x) hu (x : Int) 1 (l.drop 1).length 0 (l.length + 20) (by simp) (by simp) (by rw [List.length_drop]; omega)
    simp only [if_true, nbs, List.append_nil] at hb
    rw [if_pos (by omega)]
    unfold column_behind.f
    rw [show (0 : Int) = ((0 : Nat) : Int) from rfl, hb, hx, Int.toNat_natCast, List.length_drop]; rfl
end Go.Proofs.YtmoopdhnnpjcfaaDoor.Co
