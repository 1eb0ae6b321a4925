import Derived.Test.YtamnnaadnjkdiaaFrameSpec2
import Derived.Test.YtamnnaadnjkdiaaEFrameNexts
import Derived.Test.YtamnnaadnjkdiaaPFrameNextsx1
import Derived.Test.YtamnnaadnjkdiaaPFrameNextsx2
import Derived.Test.YtamnnaadnjkdiaaPFrameNextsx3
import Derived.Test.YtamnnaadnjkdiaaPFrameNextsx4
import Derived.Test.YtamnnaadnjkdiaaPFrameNextsx5
import Derived.Test.YtamnnaadnjkdiaaPFrameNextsx6
namespace Go.Proofs.Ytamnnaadnjkdiaa.FrameNextsA
open Go.RowKit Go.Proofs.YtamnnaadnjkdiaaW.PrintWords Go.Proofs.YtamnnaadnjkdiaaW.PrintLast Go.Proofs.YtamnnaadnjkdiaaW.PrintMore Go.Proofs.Ytamnnaadnjkdiaa.Wire Go.Proofs.Ytamnnaadnjkdiaa.Crc Go.Proofs.Ytamnnaadnjkdiaa.Frame Go.Proofs.Ytamnnaadnjkdiaa.PFrameNexts Go.Proofs.Ytamnnaadnjkdiaa.FrameNextsG Go.Proofs.Ytamnnaadnjkdiaa.FrameNextsC Go.Proofs.Ytamnnaadnjkdiaa.FrameNextsE
set_option linter.unusedVariables false
set_option linter.unusedSimpArgs false

def m80 (x : Int × List Int × Int) : S80 := ⟨x.1, x.2.1, x.2.2⟩
theorem all80_loop {l : List Int} (hb : Bytes l) (hl : l.length ≤ 1000000) : ∀ d at_ k (acc : List S80), l.length - at_ < d → at_ ≤ l.length → d + 12 < k → acc.length + l.length ≤ 1000000 + at_ →
    frame_All.l0 k l acc (at_ : Int) = some (acc ++ (fa l d at_).1.map m80, (fa l d at_).2.1, (fa l d at_).2.2) := by
  intro d
  induction d with
  | zero => intro at_ k acc h; omega
  | succ d ih =>
    intro at_ k acc h1 h2 h3 h4
    obtain ⟨k, rfl⟩ : ∃ j, k = j + 1 := ⟨k - 1, by omega⟩
    rw [frame_All.l0, fa]
    by_cases h : at_ < l.length
    · rw [if_pos (by omega), if_pos (by omega), if_pos (by omega), Int.toNat_natCast, next (hb.drop _) (by rw [List.length_drop]; omega) k (by omega), if_pos h]
      simp only [Option.bind_some]
      by_cases he : (fnext (l.drop at_)).2.2.2 = 0
      · obtain ⟨n, hn, hn1, hn2⟩ := fnext_ok (hb.drop at_) he
        rw [List.length_drop] at hn2
        rw [if_pos he, if_pos he, if_pos (by omega), hn, cw64 (by omega) (by omega), Int.toNat_natCast]
        have e := ih (at_ + n) k (acc ++ [⟨(fnext (l.drop at_)).1, (fnext (l.drop at_)).2.1, (at_ : Int)⟩]) (by omega) (by omega) (by omega) (by rw [List.length_append, List.length_singleton]; omega)
        rw [Int.natCast_add] at e
        rw [e, List.append_assoc]; rfl
      · rw [if_neg he, if_neg he]; simp
    · rw [if_neg (by omega), if_neg h]; simp
theorem all80 {l : List Int} (hb : Bytes l) (hl : l.length ≤ 1000000) (k : Nat) (hk : l.length + 20 < k) : frame_All.f k l = some ((fa l (l.length + 1) 0).1.map m80, (fa l (l.length + 1) 0).2.1, (fa l (l.length + 1) 0).2.2) := by
  have := all80_loop hb hl (l.length + 1) 0 k [] (by omega) (by omega) (by omega) (by simp; omega)
  rw [frame_All.f]
  exact this
theorem rd80 (L : List (Int × List Int × Int)) (i : Nat) (h : i < L.length) : rd_T80 (L.map m80) (i : Int) = m80 L[i] := by
  unfold rd_T80
  rw [Int.toNat_natCast, List.getD_eq_getElem?_getD, List.getElem?_map, List.getElem?_eq_getElem h]; rfl
theorem rnext {l : List Int} (hb : Bytes l) (hl : l.length ≤ 1000000) (k : Nat) (hk : 10 * l.length + 40 ≤ k) : deckleref11_Next.f k l = some (fnext l) := by
  unfold deckleref11_Next.f fnext
  by_cases h1 : l.length = 0
  · rw [if_pos (by omega), if_pos h1]
  rw [if_neg (by omega), if_neg h1, if_pos (by omega)]
  by_cases h2 : 2 < rd l 0
  · rw [if_pos h2, if_pos h2]
  rw [if_neg h2, if_neg h2, if_pos (by omega), refGetBytes (l.drop 1) (hb.drop 1) (by rw [List.length_drop]; omega) 1048576 (by decide) k (by omega)]
  simp only [Option.bind_some]
  by_cases h3 : (gb (l.drop 1) 1048576).2.2 = 0
  · obtain ⟨n, e, hn, -⟩ := gb_ok (hb.drop 1) h3
    rw [if_pos h3, if_pos h3, e]
    rw [List.length_drop] at hn
    rw [cw64 (n := (n : Int) + 5) (by omega) (by omega)]
    by_cases h4 : (l.length : Int) < (n : Int) + 5
    · rw [if_pos h4, if_pos (show (l.length : Int) < 1 + (n : Int) + 4 by omega)]
    rw [if_neg h4, if_neg (show ¬ ((l.length : Int) < 1 + (n : Int) + 4) by omega), if_pos (show 0 ≤ (n : Int) + 5 by omega), if_pos (show (n : Int) + 5 ≤ (l.length : Int) by omega), show (1 + (n : Int) + 4).toNat = ((n : Int) + 5).toNat by omega, ropen (hb.take _) (by rw [List.length_take]; omega) k (by rw [List.length_take]; omega)]
    simp only [Option.bind_some]
    have hr : 0 ≤ rd l 0 := (hb.rd_ 0).1
    have hw : wrap64 (rd l 0) = rd l 0 := cw64 (by omega) (by omega)
    unfold openS
    by_cases h5 : opened (l.take ((n : Int) + 5).toNat)
    · rw [if_pos h5, if_pos h5, if_pos rfl, hw, show 1 + (n : Int) + 4 = (n : Int) + 5 by omega]
    · rw [if_neg h5, if_neg h5, if_neg (by decide)]
  · rw [if_neg h3, if_neg h3]
def m81 (x : Int × List Int × Int) : S81 := ⟨x.1, x.2.1, x.2.2⟩
theorem all81_loop {l : List Int} (hb : Bytes l) (hl : l.length ≤ 1000000) : ∀ d at_ k (acc : List S81), l.length - at_ < d → at_ ≤ l.length → d + (10 * l.length + 40) < k → acc.length + l.length ≤ 1000000 + at_ →
    deckleref11_All.l0 k l acc (at_ : Int) = some (acc ++ (fa l d at_).1.map m81, (fa l d at_).2.1, (fa l d at_).2.2) := by
  intro d
  induction d with
  | zero => intro at_ k acc h; omega
  | succ d ih =>
    intro at_ k acc h1 h2 h3 h4
    obtain ⟨k, rfl⟩ : ∃ j, k = j + 1 := ⟨k - 1, by omega⟩
    rw [deckleref11_All.l0, fa]
    by_cases h : at_ < l.length
    · rw [if_pos (by omega), if_pos (by omega), if_pos (by omega), Int.toNat_natCast, rnext (hb.drop _) (by rw [List.length_drop]; omega) k (by rw [List.length_drop]; omega), if_pos h]
      simp only [Option.bind_some]
      by_cases he : (fnext (l.drop at_)).2.2.2 = 0
      · obtain ⟨n, hn, hn1, hn2⟩ := fnext_ok (hb.drop at_) he
        rw [List.length_drop] at hn2
        rw [if_pos he, if_pos he, if_pos (by omega), hn, cw64 (by omega) (by omega), Int.toNat_natCast]
        have e := ih (at_ + n) k (acc ++ [⟨(fnext (l.drop at_)).1, (fnext (l.drop at_)).2.1, (at_ : Int)⟩]) (by omega) (by omega) (by omega) (by rw [List.length_append, List.length_singleton]; omega)
        rw [Int.natCast_add] at e
        rw [e, List.append_assoc]; rfl
      · rw [if_neg he, if_neg he]; simp
    · rw [if_neg (by omega), if_neg h]; simp
theorem all81 {l : List Int} (hb : Bytes l) (hl : l.length ≤ 1000000) (k : Nat) (hk : 11 * l.length + 60 < k) : deckleref11_All.f k l = some ((fa l (l.length + 1) 0).1.map m81, (fa l (l.length + 1) 0).2.1, (fa l (l.length + 1) 0).2.2) := by
  have := all81_loop hb hl (l.length + 1) 0 k [] (by omega) (by omega) (by omega) (by simp; omega)
  rw [deckleref11_All.f]
  exact this
theorem rd81 (L : List (Int × List Int × Int)) (i : Nat) (h : i < L.length) : rd_T81 (L.map m81) (i : Int) = m81 L[i] := by
  unfold rd_T81
  rw [Int.toNat_natCast, List.getD_eq_getElem?_getD, List.getElem?_map, List.getElem?_eq_getElem h]; rfl
end Go.Proofs.Ytamnnaadnjkdiaa.FrameNextsA
