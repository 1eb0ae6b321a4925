import Derived.Test.YtamnnaadnjkdiaaAFb
import Derived.Test.YtamnnaadnjkdiaaEFb
/-! FrameBack: what is written, piece by piece; contracts. -/
namespace Go.Proofs.Ytamnnaadnjkdiaa.Fb
open Go.RowKit Go.Proofs.YtamnnaadnjkdiaaW.PrintWords Go.Proofs.YtamnnaadnjkdiaaW.PrintLast Go.Proofs.YtamnnaadnjkdiaaW.PrintMore Go.Proofs.Ytamnnaadnjkdiaa.Wire Go.Proofs.Ytamnnaadnjkdiaa.Crc Go.Proofs.Ytamnnaadnjkdiaa.Frame Go.Proofs.Ytamnnaadnjkdiaa.PFb Go.Proofs.Ytamnnaadnjkdiaa.FbG Go.Proofs.Ytamnnaadnjkdiaa.FbC Go.Proofs.Ytamnnaadnjkdiaa.FbE Go.Proofs.Ytamnnaadnjkdiaa.FbA
set_option linter.unusedVariables false
set_option linter.unusedSimpArgs false
set_option maxRecDepth 100000
theorem info8 : (Try.prog.info? 5).map (fun i => (i.zero, i.size, i.bytes)) = some (some (.int .u8 0), 1, 1) := by kernel_rfl
theorem info64 : (Try.prog.info? 3).map (fun i => (i.zero, i.size, i.bytes)) = some (some (.int .i64 0), 1, 8) := by kernel_rfl
def part (ks p : List Int) (i : Nat) : Int × List Int := (rd ks (i : Int) % 3, p.take i)
theorem part_len (ks p : List Int) (i : Nat) : (part ks p i).2.length ≤ p.length := by unfold part; rw [List.length_take]; omega
theorem part_fine {ks p : List Int} (hk : Bytes ks) (hp : Bytes p) (hpl : p.length ≤ 100) (N : Nat) : Fine (part ks p) N := fun i hi => by
  have h := hk.rd_ i
  exact ⟨by unfold part; dsimp only; omega, by unfold part; dsimp only; omega, by have := part_len ks p i; omega, hp.take _⟩
theorem part_pos (ks : List Int) {p : List Int} (hpl : p.length ≤ 100) (N : Nat) : pos (part ks p) N ≤ 200 * N := by
  induction N with
  | zero => exact Nat.le_refl _
  | succ n ih =>
    have := part_len ks p n
    have hu : usz (part ks p n).2.length ≤ 10 := usz_le10 (by omega)
    rw [pos_succ, fput_len]
    omega
def ats (f : Nat → Int × List Int) (n : Nat) : List Int := (List.range n).map fun i => (pos f i : Int)
theorem ats_len (f : Nat → Int × List Int) (n : Nat) : (ats f n).length = n := by simp [ats]
theorem ats_succ (f : Nat → Int × List Int) (n : Nat) : ats f (n + 1) = ats f n ++ [((cat f n).length : Int)] := by simp [ats, List.range_succ, pos]
theorem ats_get (f : Nat → Int × List Int) (n i : Nat) (h : i < n) : rd (ats f n) (i : Int) = (pos f i : Int) := by
  unfold rd ats
  rw [Int.toNat_natCast, List.getD_eq_getElem?_getD, List.getElem?_map, List.getElem?_range h]; rfl
theorem alive_calls (w : World) : Calls Try.prog 35 #[] w fun e w' => e = .returned (.bool true) ∧ Below w.heap.size w w' := decklelaw11_alive.calls 60 true w (FbE.alive 60 (by omega))
theorem write_calls {A : Option Addr} {c n : Nat} {l : List Int} {kd : Int} (hn : l.length = n) (hk : 0 ≤ kd ∧ kd ≤ 2) (hb : Bytes l) (hl : l.length ≤ 1000) (hc : l.length ≤ c) (w : World) (hr : Kd.C (Kd.int .u8) w A l.length l) :
    Calls Try.prog 34 #[.int .i64 kd, .slice A n c] w fun e w' => ∃ v, e = .returned (.tuple #[v, .int .i64 0]) ∧ Kd.R (Kd.int .u8) 5 w' w.heap.size (fun _ => True) v (fput kd l) ∧ Below w.heap.size w w' := by
  subst hn
  exact frame_Write.calls 60 kd A c l (fput kd l) 0 w hr hc (by rw [FbE.fwrite hb (by omega) 60 (by omega), if_neg (by omega), if_neg (by omega)])
theorem all_calls {A : Option Addr} {c n : Nat} {l : List Int} {L : List (Int × List Int × Int)} {a er : Int} (hn : l.length = n) (hb : Bytes l) (hl : l.length ≤ 1000000) (hc : l.length ≤ c) (w : World) (hr : Kd.C (Kd.int .u8) w A l.length l) (h : fa l (l.length + 1) 0 = (L, a, er)) :
    Calls Try.prog 44 #[.slice A n c] w fun e w' => ∃ A2 c2, e = .returned (.tuple #[.slice A2 L.length c2, .int .i64 a, .int .i64 er]) ∧ Kd.C k80 w' A2 (L.map m80).length (L.map m80) ∧ Below w.heap.size w w' := by
  subst hn
  refine (frame_All.calls (l.length + 21) A c l (L.map m80) a er w hr hc (by rw [all80 hb hl (l.length + 21) (by omega), h])).mono ?_
  rintro e w' ⟨v, rfl, hv, hb2⟩
  obtain ⟨A2, c2, rfl, -, hC⟩ := Kd.R_reads (Kd.S_R hv)
  exact ⟨A2, c2, by rw [List.length_map], hC, hb2⟩
theorem frame_at {w : World} {A : Option Addr} {ks p : List Int} {N : Nat} (h : Kd.C k80 w A (((List.range' 0 N).map (at3 (part ks p))).map m80).length (((List.range' 0 N).map (at3 (part ks p))).map m80)) {i : Nat} (hi : i < N) :
    ∃ ad A1 c1, A = some ad ∧ w.cell? (ad.add (i * 3)) = some (.int .i64 (rd ks (i : Int) % 3)) ∧ w.cell? ⟨(ad.add (i * 3)).block, (ad.add (i * 3)).off + 1, none⟩ = some (.slice A1 (p.take i).length c1) ∧ w.cell? ⟨(ad.add (i * 3)).block, (ad.add (i * 3)).off + 2, none⟩ = some (.int .i64 (pos (part ks p) i : Int)) ∧ (p.take i).length ≤ c1 ∧ (Kd.int .u8).C w A1 (p.take i).length (p.take i) := by
  have hr : rd_T80 (((List.range' 0 N).map (at3 (part ks p))).map m80) (i : Int) = m80 (at3 (part ks p) i) := by
    rw [rd80 _ i (by rw [List.length_map, List.length_range']; omega), List.getElem_map, List.getElem_range']
    simp
  have := at_T80 h (i : Int) (by omega) (by simp; omega)
  rw [hr, Int.toNat_natCast] at this
  exact this
theorem all_whole {ks p : List Int} (hk : Bytes ks) (hp : Bytes p) (hpl : p.length ≤ 100) (N : Nat) : fa (cat (part ks p) N) ((cat (part ks p) N).length + 1) 0 = ((List.range' 0 N).map (at3 (part ks p)), ((cat (part ks p) N).length : Int), 0) := by
  have hm := pos_mono (part ks p) N
  unfold pos at hm
  have := fa_cat (f := part ks p) (N := N) (part_fine hk hp hpl N) [] (cat (part ks p) N) (by simp) (.inl rfl) N 0 ((cat (part ks p) N).length + 1) (by omega) (by omega)
  rw [show pos (part ks p) 0 = 0 from rfl, if_pos rfl] at this
  exact this
theorem all_cut {ks p : List Int} (hk : Bytes ks) (hp : Bytes p) (hpl : p.length ≤ 100) (M : Nat) : fa ((cat (part ks p) (M + 1)).take ((cat (part ks p) (M + 1)).length - 1)) (((cat (part ks p) (M + 1)).take ((cat (part ks p) (M + 1)).length - 1)).length + 1) 0 = ((List.range' 0 M).map (at3 (part ks p)), (pos (part ks p) M : Int), 5) := by
  have hfin := part_fine hk hp hpl
  have hm := pos_mono (part ks p) M
  have hfl := fput_len (part ks p M).1 (part ks p M).2
  obtain ⟨f0, f1, f2, f3⟩ := hfin (M + 1) M (by omega)
  have hcat : cat (part ks p) (M + 1) = cat (part ks p) M ++ fput (part ks p M).1 (part ks p M).2 := rfl
  have hlc : (cat (part ks p) (M + 1)).length = (cat (part ks p) M).length + (fput (part ks p M).1 (part ks p M).2).length := by rw [hcat, List.length_append]
  have htk : (cat (part ks p) (M + 1)).take ((cat (part ks p) (M + 1)).length - 1) = cat (part ks p) M ++ (fput (part ks p M).1 (part ks p M).2).take ((fput (part ks p M).1 (part ks p M).2).length - 1) := by
    rw [hcat, List.take_append, List.length_append, List.take_of_length_le (by omega)]
    congr 2
    omega
  have hnx : fnext ((fput (part ks p M).1 (part ks p M).2).take ((fput (part ks p M).1 (part ks p M).2).length - 1)) = (0, [], 0, 5) := next_cut f0 f1 f2 (by omega)
  have htne : (fput (part ks p M).1 (part ks p M).2).take ((fput (part ks p M).1 (part ks p M).2).length - 1) ≠ [] := by
    intro e
    have := congrArg List.length e
    rw [List.length_take, List.length_nil] at this
    omega
  rw [htk]
  have hfa := fa_cat (f := part ks p) (N := M) (hfin M) _ _ rfl (.inr hnx) M 0 ((cat (part ks p) M ++ (fput (part ks p M).1 (part ks p M).2).take ((fput (part ks p M).1 (part ks p M).2).length - 1)).length + 1) (by omega) (by
    unfold pos at hm
    rw [List.length_append]; omega)
  rw [show pos (part ks p) 0 = 0 from rfl, if_neg htne] at hfa
  exact hfa
end Go.Proofs.Ytamnnaadnjkdiaa.Fb
