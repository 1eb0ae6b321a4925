import Derived.Test.YtamnnaadnjkdiaaFrameSpec2
import Derived.Test.YtamnnaadnjkdiaaEFb
import Derived.Test.YtamnnaadnjkdiaaPFbx1
import Derived.Test.YtamnnaadnjkdiaaPFbx2
import Derived.Test.YtamnnaadnjkdiaaPFbx3
namespace Go.Proofs.Ytamnnaadnjkdiaa.FbA
open Go.RowKit Go.Proofs.YtamnnaadnjkdiaaW.PrintWords Go.Proofs.YtamnnaadnjkdiaaW.PrintLast Go.Proofs.YtamnnaadnjkdiaaW.PrintMore Go.Proofs.Ytamnnaadnjkdiaa.Wire Go.Proofs.Ytamnnaadnjkdiaa.Crc Go.Proofs.Ytamnnaadnjkdiaa.Frame Go.Proofs.Ytamnnaadnjkdiaa.PFb Go.Proofs.Ytamnnaadnjkdiaa.FbG Go.Proofs.Ytamnnaadnjkdiaa.FbC Go.Proofs.Ytamnnaadnjkdiaa.FbE
set_option linter.unusedVariables false
set_option linter.unusedSimpArgs false

def m80 (x : Int × List Int × Int) : S80 := ⟨x.1, x.2.1, x.2.2⟩
theorem all80_loop {l : List Int} (hb : Bytes l) (hl : l.length ≤ 1000000) : ∀ d at_ k (acc : List S80), l.length - at_ < d → at_ ≤ l.length → d + 12 < k → acc.length + l.length ≤ 1000000 + at_ →
    frame_All.l0 k l acc (at_ : Int) = some (acc ++ (fa l d at_).1.map m80, (fa l d at_).2.1, (fa l d at_).2.2) := by
  intro d
  induction d with
  | zero => intro at_ k acc h; omega
  | succ d ih =>
    intro at_ k acc h1 h2 h3 h4
    obtain ⟨k, rfl⟩ : ∃ j, k = j + 1 := ⟨k - 1, by omega⟩
    rw [frame_All.l0, fa]
    by_cases h : at_ < l.length
    · rw [if_pos (by omega), if_pos (by omega), if_pos (by omega), Int.toNat_natCast, next (hb.drop _) (by rw [List.length_drop]; omega) k (by omega), if_pos h]
      simp only [Option.bind_some]
      by_cases he : (fnext (l.drop at_)).2.2.2 = 0
      · obtain ⟨n, hn, hn1, hn2⟩ := fnext_ok (hb.drop at_) he
        rw [List.length_drop] at hn2
        rw [if_pos he, if_pos he, if_pos (by omega), hn, cw64 (by omega) (by omega), Int.toNat_natCast]
        have e := ih (at_ + n) k (acc ++ [⟨(fnext (l.drop at_)).1, (fnext (l.drop at_)).2.1, (at_ : Int)⟩]) (by omega) (by omega) (by omega) (by rw [List.length_append, List.length_singleton]; omega)
        rw [Int.natCast_add] at e
        rw [e, List.append_assoc]; rfl
      · rw [if_neg he, if_neg he]; simp
    · rw [if_neg (by omega), if_neg h]; simp
theorem all80 {l : List Int} (hb : Bytes l) (hl : l.length ≤ 1000000) (k : Nat) (hk : l.length + 20 < k) : frame_All.f k l = some ((fa l (l.length + 1) 0).1.map m80, (fa l (l.length + 1) 0).2.1, (fa l (l.length + 1) 0).2.2) := by
  have := all80_loop hb hl (l.length + 1) 0 k [] (by omega) (by omega) (by omega) (by simp; omega)
  rw [frame_All.f]
  exact this
theorem rd80 (L : List (Int × List Int × Int)) (i : Nat) (h : i < L.length) : rd_T80 (L.map m80) (i : Int) = m80 L[i] := by
  unfold rd_T80
  rw [Int.toNat_natCast, List.getD_eq_getElem?_getD, List.getElem?_map, List.getElem?_eq_getElem h]; rfl
end Go.Proofs.Ytamnnaadnjkdiaa.FbA
