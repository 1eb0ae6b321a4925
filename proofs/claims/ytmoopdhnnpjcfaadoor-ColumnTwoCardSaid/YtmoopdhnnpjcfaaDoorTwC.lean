import Derived.Test.YtmoopdhnnpjcfaaDoorCoL
import Derived.Test.YtmoopdhnnpjcfaaDoorTkN
/-! ColumnTwo: what it does within Run. -/
namespace Go.Proofs.YtmoopdhnnpjcfaaDoor.Tw
open Go.RowKit Go.Proofs.YtmoopdhnnpjcfaaDoorW.PrintWords Go.Proofs.YtmoopdhnnpjcfaaDoorW.PrintLast Go.Proofs.YtmoopdhnnpjcfaaDoorW.PrintMore Go.Proofs.YtmoopdhnnpjcfaaDoor.Wire Go.Proofs.YtmoopdhnnpjcfaaDoor.PCo Go.Proofs.YtmoopdhnnpjcfaaDoor.CoG Go.Proofs.YtmoopdhnnpjcfaaDoor.Rd Go.Proofs.YtmoopdhnnpjcfaaDoor.Co
set_option linter.unusedVariables false
set_option linter.unusedSimpArgs false
set_option maxRecDepth 100000
abbrev Sx (bc bd : Nat) : Nat → Prop := fun j => j = bc ∨ j = bd
def Dn (base h1 : Nat) (bc bd tot : Nat) (l l' : List S47) (a : Nat) (w' : World) : Prop :=
  a = tot ∧ ∃ v v', w'.heap[bc]? = some (.cells #[v] 22 (0, 0)) ∧ Kd.R k47 47 w' base (fun k => h1 ≤ k) v l ∧ w'.heap[bd]? = some (.cells #[v'] 22 (0, 0)) ∧ Kd.R k47 47 w' base (fun k => h1 ≤ k) v' l'
set_option maxHeartbeats 8000000 in
theorem two_closure {w0 W1 : World} {g bp ba bc bq bb bd n n' X Y cc cc' : Nat} {A AA AA' : Option Addr} {c : Nat} {L : List Int} {l l' : List S47} {P Q : Int} (h : Rd w0 W1 g A c L 0) (hU : UtfW w0) (hU' : ∀ v, UtfW (w0.setCell ⟨bc, 0, none⟩ v)) (hL : X + Y ≤ L.length)
    (e1 : tk L P (n : Int) 0 = (l, X, 0)) (e2 : tk L Q (n' : Int) X = (l', X + Y, 0))
    (hp : W1.heap[bp]? = some (.cells #[.int .i64 P] 3 (0, 0))) (hq : W1.heap[bq]? = some (.cells #[.int .i64 Q] 3 (0, 0)))
    (ha : W1.heap[ba]? = some (.cells #[.slice AA n cc] 22 (0, 0))) (hb : W1.heap[bb]? = some (.cells #[.slice AA' n' cc'] 22 (0, 0)))
    (hcb : W1.heap[bc]? = some (.cells #[.slice none 0 0] 22 (0, 0))) (hdb : W1.heap[bd]? = some (.cells #[.slice none 0 0] 22 (0, 0)))
    (ncg : bc ≠ g) (ndg : bd ≠ g) (ncd : bc ≠ bd) (npg : bp ≠ g) (nqg : bq ≠ g) (nag : ba ≠ g) (nbg : bb ≠ g) (nqc : bq ≠ bc) (nbc : bb ≠ bc) (hw0 : bc < w0.heap.size) (hA : ∀ ad, A = some ad → 0 < L.length → ad.block ≠ bc) :
    Calls Tryd.prog 28 (#[.pointer (some ⟨g, 0, none⟩)] ++ #[.pointer (some ⟨bp, 0, none⟩), .pointer (some ⟨ba, 0, none⟩), .pointer (some ⟨bc, 0, none⟩), .pointer (some ⟨bq, 0, none⟩), .pointer (some ⟨bb, 0, none⟩), .pointer (some ⟨bd, 0, none⟩)]) W1
      (Left_ (Sx bc bd) g A L.length c W1 (Dn w0.heap.size W1.heap.size bc bd (X + Y) l l') (fun a er w' => False)) := by
  have HT := Aside0.mk (take_calls h P (n : Int) hU)
  rw [e1] at HT
  have HGL := Aside0.mk (blk_lt h.at_)
  have HU := Aside0.mk hU'
  have HAF := Aside0.mk hA
  have HRD0 := Aside0.mk h
  have HE2 := Aside0.mk e2
  have HLL := Aside0.mk hL
  have HQ := Aside0.mk hq
  have HB := Aside0.mk hb
  have HCB := Aside0.mk hcb
  have HDB := Aside0.mk hdb
  have NE := Aside0.mk (And.intro ncg (And.intro ndg (And.intro ncd (And.intro nqg (And.intro nbg (And.intro nqc (And.intro nbc hw0)))))))
  have c1 : W1.cell? ⟨bp, 0, none⟩ = some (.int .i64 P) := (blk_cell hp 0).trans rfl
  have c2 : W1.cell? ⟨ba, 0, none⟩ = some (.slice AA n cc) := (blk_cell ha 0).trans rfl
  clear h e1 e2 hp hq ha hb hcb hdb ncg ndg ncd npg nqg nag nbg nqc nbc hw0 hU hU' hL hA
  go_enter Tryd.func28, Tryd.ntmps28
  go_wp2_with fail
  refine HT.out.mono ?_
  rintro e w2 (⟨-, v, rfl, ht⟩ | ⟨h0, rfl, hrd, hkp⟩)
  case inr => exact absurd rfl h0
  obtain ⟨ncg, ndg, ncd, nqg, nbg, nqc, nbc, hw0⟩ := NE.out
  obtain ⟨B, d, hv⟩ := Kd.R_slice ht.row
  subst hv
  dsimp only at ht
  have hc2 := ht.kp.blk HCB.out ncg
  have hd2 := ht.kp.blk HDB.out ndg
  have hq2 := ht.kp.blk HQ.out nqg
  have hb2 := ht.kp.blk HB.out nbg
  have f1 : w2.cell? ⟨bc, 0, none⟩ = some (.slice none 0 0) := (blk_cell hc2 0).trans rfl
  have f2 : w2.frozen? ⟨bc, 0, none⟩ = false := blk_frozen hc2 0
  obtain ⟨m, hm⟩ : ∃ m, l.length = m := ⟨_, rfl⟩
  have HM := Aside0.mk hm
  rw [hm] at ht ⊢
  have hkc : Kp (fun j => j = bc) w2 (w2.setCell ⟨bc, 0, none⟩ (.slice B m d)) := Kp.setCell (S := fun j => j = bc) (Kp.refl _ w2) (p := ⟨bc, 0, none⟩) (.inl rfl) _
  have hc3 : (w2.setCell ⟨bc, 0, none⟩ (.slice B m d)).heap[bc]? = some (.cells #[.slice B m d] 22 (0, 0)) := blk_put hc2 0 _ rfl
  have hd3 := hkc.blk hd2 (fun z => ncd z.symm)
  have hq3 := hkc.blk hq2 nqc
  have hb3 := hkc.blk hb2 nbc
  have hr3 := Kd.R_set ht.row hc2 (by decide) 0 (.slice B m d)
  have hw0c : w0.heap[bc]? = some (.cells #[.slice none 0 0] 22 (0, 0)) := (HRD0.out.base.block bc hw0).symm.trans HCB.out
  have hsz : (w0.setCell ⟨bc, 0, none⟩ (.slice B m d)).heap.size = w0.heap.size := by simp [World.setCell]
  have hkw : Kp (fun j => j = bc) w0 (w0.setCell ⟨bc, 0, none⟩ (.slice B m d)) := Kp.setCell (S := fun j => j = bc) (Kp.refl _ w0) (p := ⟨bc, 0, none⟩) (.inl rfl) _
  have hrd3 : Rd (w0.setCell ⟨bc, 0, none⟩ (.slice B m d)) (w2.setCell ⟨bc, 0, none⟩ (.slice B m d)) g A c L X := by
    refine ⟨ht.rd.at_.keep hkc (fun z => ncg z.symm), ⟨ht.rd.base.os, ht.rd.base.tape, ht.rd.base.output, ?_, fun i hi => ?_⟩, by rw [hsz]; exact ht.rd.old, hkw.row ht.rd.row0 (fun ad e hn => HAF.out ad e hn), ht.rd.cap, ht.rd.le, ht.rd.by_, ht.rd.len⟩
    · rw [hsz]; exact Nat.le_trans ht.rd.base.size hkc.size
    · rw [hsz] at hi
      by_cases e : i = bc
      · rw [e, hc3]
        exact (blk_put hw0c 0 (.slice B m d) rfl).symm
      · rw [Below.heap_setCell w2 ⟨bc, 0, none⟩ _ i e, Below.heap_setCell w0 ⟨bc, 0, none⟩ _ i e]
        exact ht.rd.base.block i hi
  have hk3 : Kp (fun j => j = g ∨ Sx bc bd j) W1 (w2.setCell ⟨bc, 0, none⟩ (.slice B m d)) := (ht.kp.mono (fun j hj => .inl hj)).trans (hkc.mono (fun j hj => .inr (.inl hj)))
  obtain ⟨W3, hW3⟩ : ∃ W3, w2.setCell ⟨bc, 0, none⟩ (.slice B m d) = W3 := ⟨_, rfl⟩
  have HT2 := Aside0.mk (take_calls hrd3 Q (n' : Int) (HU.out _))
  rw [HE2.out] at HT2
  rw [hW3] at hc3 hd3 hq3 hb3 hr3 hk3 HT2
  have HC3 := Aside0.mk hc3
  have HD3 := Aside0.mk hd3
  have HR3 := Aside0.mk hr3
  have HK3 := Aside0.mk hk3
  have HSZ := Aside0.mk hsz
  have g1 : W3.cell? ⟨bq, 0, none⟩ = some (.int .i64 Q) := (blk_cell hq3 0).trans rfl
  have g2 : W3.cell? ⟨bb, 0, none⟩ = some (.slice AA' n' cc') := (blk_cell hb3 0).trans rfl
  clear ht hc2 hd2 hq2 hb2 hkc hc3 hd3 hq3 hb3 hr3 hrd3 hk3 HT c1 c2 hw0c hkw HRD0 hsz ncg ndg ncd nqg nbg nqc nbc hw0 hm
  go_wp2_with fail
  clear hW3 g1 g2 f1 f2
  refine HT2.out.mono ?_
  rintro e w4 (⟨-, v', rfl, ht⟩ | ⟨h0, rfl, hrd, hkp⟩)
  case inr => exact absurd rfl h0
  obtain ⟨ncg, ndg, ncd, nqg, nbg, nqc, nbc, hw0⟩ := NE.out
  obtain ⟨B', d', hv'⟩ := Kd.R_slice ht.row
  subst hv'
  dsimp only at ht
  have hc4 := ht.kp.blk HC3.out ncg
  have hd4 := ht.kp.blk HD3.out ndg
  have f1 : w4.cell? ⟨bd, 0, none⟩ = some (.slice none 0 0) := (blk_cell hd4 0).trans rfl
  have f2 : w4.frozen? ⟨bd, 0, none⟩ = false := blk_frozen hd4 0
  have hr4 := Kd.R_kept HR3.out ht.kp.kept (fun j hj z => by have := HGL.out; omega)
  obtain ⟨m', hm'⟩ : ∃ m', l'.length = m' := ⟨_, rfl⟩
  rw [hm'] at ht ⊢
  have hkd : Kp (fun j => j = bd) w4 (w4.setCell ⟨bd, 0, none⟩ (.slice B' m' d')) := Kp.setCell (S := fun j => j = bd) (Kp.refl _ w4) (p := ⟨bd, 0, none⟩) (.inl rfl) _
  have HF := Aside0.mk (show Left_ (Sx bc bd) g A L.length c W1 (Dn w0.heap.size W1.heap.size bc bd (X + Y) l l') (fun a er w' => False) (.returned (.tuple #[])) (w4.setCell ⟨bd, 0, none⟩ (.slice B' m' d')) from by
    refine ⟨(HK3.out.trans (ht.kp.mono (fun j hj => .inl hj))).trans (hkd.mono (fun j hj => .inr (.inr hj))), .inl ⟨rfl, X + Y, ht.rd.at_.keep hkd (fun z => ndg z.symm), HLL.out, rfl, .slice B m d, .slice B' m' d', ?_, ?_, ?_, ?_⟩⟩
    · exact hkd.blk hc4 ncd
    · exact Kd.R_set hr4 hd4 (by decide) 0 _
    · exact blk_put hd4 0 _ rfl
    · have hrow := ht.row
      rw [HSZ.out] at hrow
      exact Kd.R_set (Kd.R_mono hrow (fun j hj => Nat.le_trans HK3.out.size hj)) hd4 (by decide) 0 _)
  clear ht hc4 hd4 hr4 hkd hm' ncg ndg ncd nqg nbg nqc nbc hw0
  go_wp2
  exact ⟨rfl, .tuple #[], by simp [results, Tryd.results28, go_sem], HF.out⟩
end Go.Proofs.YtmoopdhnnpjcfaaDoor.Tw
