import Derived.Test.YtamnnaadnjkdiaaRbB
import Derived.Test.YtamnnaadnjkdiaaGWi
/-! ReaderBack: the call. -/
namespace Go.Proofs.Ytamnnaadnjkdiaa.Rb
open Go.RowKit Go.Proofs.YtamnnaadnjkdiaaW.PrintWords Go.Proofs.YtamnnaadnjkdiaaW.PrintLast Go.Proofs.YtamnnaadnjkdiaaW.PrintMore Go.Proofs.Ytamnnaadnjkdiaa.Wire Go.Proofs.Ytamnnaadnjkdiaa.Frame Go.Proofs.Ytamnnaadnjkdiaa.Rd Go.Proofs.Ytamnnaadnjkdiaa.PWi Go.Proofs.Ytamnnaadnjkdiaa.WiG
set_option linter.unusedVariables false
set_option linter.unusedSimpArgs false
set_option maxRecDepth 100000
theorem infoB : (Try.prog.info? 5).map (fun i => (i.zero, i.size, i.bytes)) = some (some (.int .u8 0), 1, 1) := by kernel_rfl
theorem wint_calls (x : Int) (h0 : -9223372036854775808 ≤ x) (h1 : x ≤ 9223372036854775807) (w : World) : Calls Try.prog 37 #[.int .i64 x] w fun e w' => ∃ v : Value, e = .returned v ∧ Kd.R (Kd.int .u8) 5 w' w.heap.size (fun _ => True) v (uv (zigS x).toNat) ∧ Below w.heap.size w w' :=
  wire_Int.calls 12 _ _ w (putInt h0 h1 12 (by decide))
theorem wbytes_calls {A : Option Addr} {c : Nat} {l : List Int} (hl : l.length ≤ 140737488351232) (hc : l.length ≤ c) (w : World) (hr : Kd.C (Kd.int .u8) w A l.length l) : Calls Try.prog 38 #[.slice A l.length c] w fun e w' => ∃ v : Value, e = .returned v ∧ Kd.R (Kd.int .u8) 5 w' w.heap.size (fun _ => True) v (uv l.length ++ l) ∧ Below w.heap.size w w' :=
  wire_Bytes.calls 12 A c l _ w hr hc (putBytes l hl 12 (by decide))
def lastp (xs : List Int) (ys : List (List Int)) (j : Nat) : Nat := if j = 0 then 0 else pos xs ys (j - 1)
theorem lastp_succ (xs : List Int) (ys : List (List Int)) (j : Nat) : lastp xs ys (j + 1) = (cat xs ys j).length := by unfold lastp; rw [if_neg (by omega)]; rfl
/-- Run, over a row that was made. -/
theorem back_run {w3 W : World} {A : Option Addr} {c : Nat} {B xs : List Int} {ys : List (List Int)} {K bl bt n1 n2 c1 c2 : Nat} {A1 A2 : Option Addr} (hW : Below w3.heap.size w3 W) (hr : (Kd.int .u8).C w3 A B.length B) (hc : B.length ≤ c) (hb : Bytes B) (hl : B.length ≤ 100000)
    (hf : Fine xs ys) (hs : Stands B xs ys K) (hn1 : xs.length = n1) (hn2 : ys.length = n2) (hsm : n1 ≤ 100 ∧ n2 ≤ 30) (hys : ∀ i, i < n2 → (bys ys i).length ≤ 300)
    (hC1 : (Kd.int .i64).C w3 A1 xs.length xs) (hC2 : Kd.C (Kd.slice 5 (Kd.int .u8)) w3 A2 ys.length ys)
    (hbl : w3.heap[bl]? = some (.cells #[.slice A1 n1 c1] 61 (0, 0))) (hbt : w3.heap[bt]? = some (.cells #[.slice A2 n2 c2] 62 (0, 0))) (hg : W.heap[w3.heap.size]? = some (.cells #[.bool true] 4 (0, 0))) (hK : K = n1 + n2 → pos xs ys K = B.length) :
    Calls Try.prog 15 #[.slice A B.length c, .func (.func 39) #[] #[.pointer (some ⟨bl, 0, none⟩), .pointer (some ⟨w3.heap.size, 0, none⟩), .pointer (some ⟨bt, 0, none⟩)]] W
      fun e w' => e = .returned (.tuple #[.int .i64 ((pos xs ys K : Nat) : Int), .int .i64 (if K = n1 + n2 then 0 else 5)]) ∧ Below w3.heap.size w3 w' ∧ w'.heap[w3.heap.size]? = some (.cells #[.bool true] 4 (0, 0)) := by
  have hcf : ∀ args w, (callFunc 39 args).run Try.prog w = .ok (.enter 39 args) w := fun _ _ => by kernel_rfl
  have hgl := blk_lt hg
  have l1 := blk_lt hbl
  have l2 := blk_lt hbt
  refine (run_rd (w0 := w3) (l := B) (fun k => k = w3.heap.size)
    (fun g h1 a w' => ∃ W1, K = n1 + n2 ∧ a = pos xs ys K ∧ Sb w3 W1 w' ⟨g, bl, w3.heap.size, bt, A, c, B, A1, n1, c1, A2, n2, c2⟩ a)
    (fun g h1 a er w' => ∃ W1, K < n1 + n2 ∧ a = pos xs ys K ∧ er = 5 ∧ Sb w3 W1 w' ⟨g, bl, w3.heap.size, bt, A, c, B, A1, n1, c1, A2, n2, c2⟩ a)
    hW hr hc hb (by omega) (by rintro k rfl; exact hgl) hcf ?_).mono ?_
  · intro g W1 hrd hbw h1 h2
    have st : Sb w3 W1 W1 ⟨g, bl, w3.heap.size, bt, A, c, B, A1, n1, c1, A2, n2, c2⟩ 0 :=
      ⟨hrd, blk_below (blk_below hbl hW) hbw, blk_below hg hbw, blk_below (blk_below hbt hW) hbw, by refine ⟨?_, ?_, ?_⟩ <;> (dsimp only; omega), Nat.le_refl _, Kp.refl _ _⟩
    refine (back_closure st hf hs hn1 hn2 hsm hys hC1 hC2).mono ?_
    rintro e w' ⟨k1, k2⟩
    refine ⟨k1, ?_⟩
    rcases k2 with ⟨e1, a, h3, h4, h5, h6, h7⟩ | ⟨a, er, e1, h3, h4, h5, h6, h7, h8⟩
    · exact .inl ⟨e1, a, h3, h4, _, h5, h6, h7⟩
    · exact .inr ⟨a, er, e1, h3, h4, _, h5, h6, h7, h8⟩
  · rintro e w2 ⟨g, hh1, a, er, w4, rfl, hg1, hg2, hg3, hkA, hkB, hat, ha, hcase⟩
    have hbe : Below w3.heap.size w3 w2 := hkA.to_below hW (by rintro k rfl; exact Nat.le_refl _)
    have nn : ¬ (W.heap.size ≤ w3.heap.size ∧ w3.heap.size < hh1) := by omega
    rcases hcase with ⟨⟨W1, h5, rfl, h7⟩, rfl⟩ | ⟨W1, h5, rfl, rfl, h7⟩
    · refine ⟨?_, hbe, hkB.blk h7.good_ nn⟩
      have := hK h5
      rw [if_pos h5, if_neg (by omega)]
    · refine ⟨?_, hbe, hkB.blk h7.good_ nn⟩
      rw [if_neg (by omega)]
end Go.Proofs.Ytamnnaadnjkdiaa.Rb
