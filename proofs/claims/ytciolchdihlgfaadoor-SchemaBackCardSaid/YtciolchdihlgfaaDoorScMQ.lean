import Derived.Test.YtciolchdihlgfaaDoorScAK
import Derived.Test.YtciolchdihlgfaaDoorRdS
import Derived.Test.YtciolchdihlgfaaDoorPScx
import Derived.Test.YtciolchdihlgfaaDoorRowW
import Derived.Test.YtciolchdihlgfaaDoorWireSpec2
import Derived.Shelf.LaysM
/-! Schema: Read. -/
namespace Go.Proofs.YtciolchdihlgfaaDoor.Sc
open Go.RowKit Go.Proofs.YtciolchdihlgfaaDoorW.PrintWords Go.Proofs.YtciolchdihlgfaaDoorW.PrintLast Go.Proofs.YtciolchdihlgfaaDoorW.PrintMore Go.Proofs.YtciolchdihlgfaaDoor.Wire Go.Proofs.YtciolchdihlgfaaDoor.PSc Go.Proofs.YtciolchdihlgfaaDoor.Co Go.Proofs.YtciolchdihlgfaaDoor.Ce Go.Proofs.YtciolchdihlgfaaDoor.Rd
set_option linter.unusedVariables false
set_option linter.unusedSimpArgs false
set_option maxRecDepth 100000
abbrev CRes := List Col × Nat × Int
/-- So many columns, from a place on. -/
def rgo (l : List Int) : Nat → Nat → List Col → CRes
  | 0, a, xs => (xs, a, 0)
  | m + 1, a, xs =>
    if be l a 32 ≠ 0 then ([], a, be l a 32) else if fine (nms xs) (strOfNums (bx l a 32)) = false then ([], a + bk l a 32, 2) else if ¬ (a + bk l a 32 < l.length) then ([], a + bk l a 32, 5)
    else if ¬ (0 ≤ rd l ((a + bk l a 32 : Nat) : Int) ∧ rd l ((a + bk l a 32 : Nat) : Int) < 6) then ([], a + bk l a 32 + 1, 10)
    else rgo l m (a + bk l a 32 + 1) (xs ++ [⟨strOfNums (bx l a 32), rd l ((a + bk l a 32 : Nat) : Int)⟩])
def rtk (l : List Int) : CRes := if ge l 0 ≠ 0 then ([], 0, ge l 0) else if 8 < gx l 0 then ([], 0, 3) else if gx l 0 = 0 then ([], gk l 0, 4) else rgo l (gx l 0).toNat (gk l 0) []
theorem rgo_le {l : List Int} (hb : Bytes l) : ∀ m a xs, a ≤ l.length → (rgo l m a xs).2.1 ≤ l.length
  | 0, a, xs, h => h
  | m + 1, a, xs, h => by
    rw [rgo]
    split
    · exact h
    rename_i h1
    have h2 := (b_ok hb h (Decidable.not_not.1 h1)).2.2.1
    split
    · exact h2
    split
    · exact h2
    rename_i h3
    split
    · show _ + 1 ≤ _; omega
    · exact rgo_le hb m _ _ (by omega)
theorem rtk_le {l : List Int} (hb : Bytes l) : (rtk l).2.1 ≤ l.length := by
  unfold rtk
  split
  · exact Nat.zero_le _
  rename_i h1
  split
  · exact Nat.zero_le _
  have := (g_ok hb (Nat.zero_le _) (Decidable.not_not.1 h1)).2.2.2.2.2.1
  split
  · show gk l 0 ≤ _; omega
  · exact rgo_le hb _ _ _ (by omega)
theorem map_ne {α : Type} {d : Kd α} {e : TypeId} {w : World} {base : Nat} {ok : Nat → Prop} {v : Value} {xs : List α} {b : Nat} {ks : List ByteArray} (h : d.R e w base ok v xs) (hm : Held w b ks) : some b ≠ v.ownBlock := by
  intro e
  obtain ⟨inner, ho⟩ := Kd.R_own h
  obtain ⟨cells, hc⟩ := own_typed ho b e.symm
  obtain ⟨n, D, ⟨es, clock, hh, -⟩, -⟩ := hm
  rw [hh] at hc
  simp at hc
theorem Held.keep {w w' : World} {b : Nat} {ks : List ByteArray} (h : Held w b ks) (hb : w'.heap[b]? = w.heap[b]?) : Held w' b ks := by
  obtain ⟨n, D, ⟨es, clock, hh, r1⟩, r⟩ := h
  exact ⟨n, D, ⟨es, clock, hb.trans hh, r1⟩, r⟩
theorem But.kp {b : Nat} {w w' : World} (h : But b w w') : Kp (fun k => k = b) w w' := by
  have h0 := h.below 0 (Nat.zero_le _) (Nat.zero_le _)
  exact ⟨h0.os, h0.tape, h0.output, h0.size, fun k hk hn => h.block k hk hn⟩
/-- Columns that are taken off a reader into the variable at bs; the names so far in the map at bm. -/
structure Tc (w0 W w' : World) (g bs bm : Nat) (A : Option Addr) (c : Nat) (l : List Int) (a : Nat) (ok : Nat → Prop) (v : Value) (xs : List Col) (ks : List ByteArray) : Prop where
  rd : Rd w0 w' g A c l a
  kp : Kp (fun k => k = g ∨ k = bs) W w'
  var : w'.heap[bs]? = some (.cells #[v] 24 (0, 0))
  row : Kd.R k53 53 w' w0.heap.size ok v xs
  map : Held w' bm ks
namespace Tc
variable {w0 W W1 w' : World} {g bs bm : Nat} {A : Option Addr} {c : Nat} {l : List Int} {a b : Nat} {ok ok' : Nat → Prop} {v : Value} {xs : List Col} {ks : List ByteArray}
theorem step (h : Tc w0 W W1 g bs bm A c l a ok v xs ks) (hne : bs ≠ g) (hbm : bm ≠ g) (hok : ∀ k, ok k → k ≠ g) (hrd : Rd w0 w' g A c l b) (hk : Kp (fun k => k = g) W1 w') : Tc w0 W w' g bs bm A c l b ok v xs ks :=
  ⟨hrd, h.kp.trans (hk.mono fun _ z => .inl z), hk.blk h.var hne, Kd.R_kept h.row hk.kept (fun k hk' => hok k hk'), h.map.keep (hk.block bm h.map.lt hbm)⟩
theorem below (h : Tc w0 W W1 g bs bm A c l a ok v xs ks) (hb : Below W1.heap.size W1 w') : Tc w0 W w' g bs bm A c l a ok v xs ks :=
  ⟨h.rd.below hb, h.kp.below hb, blk_below h.var hb, Kd.R_below h.row hb, h.map.below hb⟩
theorem mono (h : Tc w0 W W1 g bs bm A c l a ok v xs ks) (hok : ∀ k, ok k → ok' k) : Tc w0 W W1 g bs bm A c l a ok' v xs ks := ⟨h.rd, h.kp, h.var, Kd.R_mono h.row hok, h.map⟩
theorem narrow (h : Tc w0 W W1 g bs bm A c l a ok v xs ks) : Tc w0 W W1 g bs bm A c l a (fun k => ok k ∧ k ≠ W1.heap.size) v xs ks :=
  ⟨h.rd, h.kp, h.var, Kd.R_mono (Kd.R_bound h.row) (fun k hk => ⟨hk.1, by have := hk.2.2.1; omega⟩), h.map⟩
/-- Behind a write to the map. -/
theorem took (h : Tc w0 W W1 g bs bm A c l a ok v xs ks) (hg : bm ≠ g) (hs : bm ≠ bs) (hn : W.heap.size ≤ bm) (hn0 : w0.heap.size ≤ bm) {ks' : List ByteArray} (hm : Held w' bm ks') (hb : But bm W1 w') : Tc w0 W w' g bs bm A c l a ok v xs ks' :=
  ⟨h.rd.keep hb.kp (fun k z => by subst z; exact ⟨hn0, hg⟩), h.kp.then_ hb.kp (fun k z => .inr (by omega)), hb.kp.blk h.var (fun z => hs z.symm),
    Kd.R_mono (Kd.R_step (ok := fun k => ok k ∧ k ≠ bm) (Kd.R_mono (Kd.R_bound h.row) (fun k hk => ⟨hk.1, fun e => by
      obtain ⟨_, _, _, q, hq, cells, hc⟩ := hk
      obtain ⟨n, D, ⟨es, clock, hh, -⟩, -⟩ := h.map
      rw [e, hh] at hc
      simp at hc⟩)) (fun k hk hk2 => hb.block k hk2 hk.2)) (fun _ z => z.1), hm⟩
/-- Behind a write to a block of the round's own. -/
theorem put (h : Tc w0 W W1 g bs bm A c l a ok v xs ks) {p : Addr} (hg : p.block ≠ g) (hs : p.block ≠ bs) (hm : p.block ≠ bm) (hn : W.heap.size ≤ p.block) (hn0 : w0.heap.size ≤ p.block) (hok : ∀ k, ok k → k ≠ p.block) (u : Value) : Tc w0 W (W1.setCell p u) g bs bm A c l a ok v xs ks := by
  have hk : Kp (fun k => k = p.block) W1 (W1.setCell p u) := Kp.setCell (S := fun k => k = p.block) (Kp.refl _ W1) (p := p) (.inl rfl) u
  exact ⟨h.rd.keep hk (fun k z => by subst z; exact ⟨hn0, hg⟩), h.kp.then_ hk (fun k z => .inr (by omega)), hk.blk h.var (fun z => hs z.symm), Kd.R_kept h.row hk.kept (fun k z => hok k z), h.map.keep (hk.block bm h.map.lt (fun z => hm z.symm))⟩
theorem app_var (h : Tc w0 W W1 g bs bm A c l a ok v xs ks) (hbs : bs < W.heap.size) (hok : ∀ k, ok k → W.heap.size ≤ k) (hgr : W1.grownBy w' v.ownBlock) : w'.heap[bs]? = some (.cells #[v] 24 (0, 0)) :=
  (hgr.block bs (blk_lt h.var) (fun e => by have := hok bs (h.row.1 bs e.symm); omega)).trans h.var
/-- Behind an append, and its store. -/
theorem app (h : Tc w0 W W1 g bs bm A c l a ok v xs ks) (hne : bs ≠ g) (hbs : bs < W.heap.size) (hg : g < W.heap.size) (hms : bm ≠ bs) (hW : w0.heap.size ≤ W.heap.size) (hbs0 : w0.heap.size ≤ bs) (hok : ∀ k, ok k → W.heap.size ≤ k) {v1 : Value} {ys : List Col} (hr : Kd.R k53 53 w' w0.heap.size ok v1 ys) (hgr : W1.grownBy w' v.ownBlock) :
    Tc w0 W (w'.setCell ⟨bs, 0, none⟩ v1) g bs bm A c l a ok v1 ys ks := by
  have hos : Kp (fun k => W.heap.size ≤ k ∧ k ≠ bm) W1 w' := ⟨hgr.os, hgr.tape, hgr.output, hgr.size, fun k hk hn => hgr.block k hk (fun e => hn ⟨hok k (h.row.1 k e.symm), fun z => by subst z; exact map_ne h.row h.map e⟩)⟩
  have hvar := hos.blk h.var (fun z => by omega)
  have hk : Kp (fun k => k = bs) w' (w'.setCell ⟨bs, 0, none⟩ v1) := Kp.setCell (S := fun k => k = bs) (Kp.refl _ w') (p := ⟨bs, 0, none⟩) (.inl rfl) v1
  exact ⟨(h.rd.keep hos (fun k z => ⟨by omega, by omega⟩)).keep hk (fun k z => by subst z; exact ⟨hbs0, hne⟩), (h.kp.then_ hos (fun k z => .inr z.1)).then_ hk (fun k z => .inl (.inr z)), blk_put hvar 0 _ rfl, Kd.R_set hr hvar (by decide) 0 _,
    (h.map.keep (hos.block bm h.map.lt (fun z => z.2 rfl))).keep (hk.block bm ((h.map.keep (hos.block bm h.map.lt (fun z => z.2 rfl))).lt) hms)⟩
end Tc
/-- How the closure ends. -/
abbrev Fin_ (w0 W1 : World) (g bs : Nat) (A : Option Addr) (c : Nat) (l : List Int) (r : CRes) : Ending → World → Prop :=
  Left_ (fun j => j = bs) g A l.length c W1 (fun a w' => r.2.2 = 0 ∧ a = r.2.1 ∧ ∃ v, w'.heap[bs]? = some (.cells #[v] 24 (0, 0)) ∧ Kd.R k53 53 w' w0.heap.size (fun k => W1.heap.size ≤ k) v r.1) (fun a er w' => r.2.2 ≠ 0 ∧ a = r.2.1 ∧ er = r.2.2)
theorem fin_end {w0 W1 w' : World} {g bs : Nat} {A : Option Addr} {c : Nat} {l : List Int} {r : CRes} (h0 : r.2.2 ≠ 0) (hrd : Rd w0 w' g A c l r.2.1) (hk : Kp (fun k => k = g ∨ k = bs) W1 w') : Fin_ w0 W1 g bs A c l r (.panicked [ends g r.2.2]) w' :=
  ⟨hk, .inr ⟨r.2.1, r.2.2, rfl, hrd.at_, hrd.le, h0, rfl, rfl⟩⟩
theorem fin_done {w0 W1 w' : World} {g bs bm : Nat} {A : Option Addr} {c : Nat} {l : List Int} {a : Nat} {v : Value} {xs : List Col} {ks : List ByteArray} (h : Tc w0 W1 w' g bs bm A c l a (fun k => W1.heap.size ≤ k) v xs ks) : Fin_ w0 W1 g bs A c l (xs, a, 0) (.returned (.tuple #[])) w' :=
  ⟨h.kp, .inl ⟨rfl, a, h.rd.at_, h.rd.le, rfl, rfl, v, h.var, h.row⟩⟩
theorem nms_snoc (xs : List Col) (c : Col) : nms (xs ++ [c]) = c.f0 :: nms xs := by
  unfold nms; rw [List.map_append, List.reverse_append]; rfl
end Go.Proofs.YtciolchdihlgfaaDoor.Sc
/-! Schema: Read's closure. -/
namespace Go.Proofs.YtciolchdihlgfaaDoor.Sc
open Go.RowKit Go.Proofs.YtciolchdihlgfaaDoorW.PrintWords Go.Proofs.YtciolchdihlgfaaDoorW.PrintLast Go.Proofs.YtciolchdihlgfaaDoorW.PrintMore Go.Proofs.YtciolchdihlgfaaDoor.Wire Go.Proofs.YtciolchdihlgfaaDoor.PSc Go.Proofs.YtciolchdihlgfaaDoor.Co Go.Proofs.YtciolchdihlgfaaDoor.Ce Go.Proofs.YtciolchdihlgfaaDoor.Rd
set_option linter.unusedVariables false
set_option linter.unusedSimpArgs false
set_option maxRecDepth 100000
theorem rgo_step {l : List Int} {m a a' : Nat} {xs : List Col} {s : ByteArray} {k : Int} (hs : strOfNums (bx l a 32) = s) (ha : a + bk l a 32 = a') (hk : rd l (a' : Int) = k) (h : be l a 32 = 0) :
    rgo l (m + 1) a xs = if fine (nms xs) s = false then ([], a', 2) else if ¬ (a' < l.length) then ([], a', 5) else if ¬ (0 ≤ k ∧ k < 6) then ([], a' + 1, 10) else rgo l m (a' + 1) (xs ++ [⟨s, k⟩]) := by
  subst hs ha hk
  rw [rgo, if_neg (not_not_intro h)]
set_option maxHeartbeats 32000000 in
theorem closure_calls {w0 W1 : World} {g bs : Nat} {A : Option Addr} {c : Nat} {l : List Int} (h : Rd w0 W1 g A c l 0) (hN : NamesW w0) (hbs : W1.heap[bs]? = some (.cells #[.slice none 0 0] 24 (0, 0))) (hne : bs ≠ g) (hbs0 : w0.heap.size ≤ bs) :
    Calls Tryd.prog 18 (#[.pointer (some ⟨g, 0, none⟩)] ++ #[.pointer (some ⟨bs, 0, none⟩)]) W1 (Fin_ w0 W1 g bs A c l (rtk l)) := by
  obtain ⟨r, hr⟩ : ∃ r, rtk l = r := ⟨_, rfl⟩
  rw [hr]
  unfold rtk at hr
  have HG := Aside0.mk (blk_lt h.at_)
  have HBS := Aside0.mk (blk_lt hbs)
  have HNE := Aside0.mk hne
  have HS0 := Aside0.mk hbs0
  have HNW := Aside0.mk (fun (W : World) (hb : Below w0.heap.size w0 W) => hN.below hb)
  have HBY := Aside0.mk h.by_
  have HLE := Aside0.mk h.len
  have hmm := @run_makeMap Tryd.prog
  by_cases he : ge l 0 ≠ 0
  · rw [if_pos he] at hr
    have HI := Aside0.mk (h.uint_end 8 _ _ _ (g_err he) (.inl he))
    rw [if_neg he] at HI
    obtain ⟨E, hE⟩ : ∃ E, ge l 0 = E := ⟨_, rfl⟩
    rw [hE] at HI hr he
    have HTN := Aside0.mk hr
    have HNZ := Aside0.mk he
    clear h hN hbs hne hbs0 he hE hr
    go_enter Tryd.func18, Tryd.ntmps18
    go_wp2_with fail
    refine HI.out.mono ?_
    rintro e w2 ⟨rfl, hrd, hkp⟩
    have hfin : Fin_ w0 W1 g bs A c l r (.panicked [ends g E]) w2 := by rw [← HTN.out]; exact fin_end (r := ([], 0, E)) HNZ.out hrd (hkp.mono fun _ z => .inl z)
    (try simp only [Exit.inBlock, Exit.then])
    exact ⟨rfl, hfin⟩
  have he0 : ge l 0 = 0 := Decidable.not_not.1 he
  rw [if_neg he] at hr
  obtain ⟨eg, hx0, hx1, -, -, ha3, -⟩ := g_ok h.by_ (Nat.zero_le _) he0
  by_cases h8 : 8 < gx l 0
  · rw [if_pos h8] at hr
    have HI := Aside0.mk (h.uint_end 8 _ _ _ eg (.inr h8))
    rw [if_pos rfl] at HI
    have HTN := Aside0.mk hr
    clear h hN hbs hne hbs0 he he0 hr h8 eg hx0 hx1 ha3
    go_enter Tryd.func18, Tryd.ntmps18
    go_wp2_with fail
    refine HI.out.mono ?_
    rintro e w2 ⟨rfl, hrd, hkp⟩
    have hfin : Fin_ w0 W1 g bs A c l r (.panicked [ends g 3]) w2 := by rw [← HTN.out]; exact fin_end (r := ([], 0, 3)) (by show (3 : Int) ≠ 0; decide) hrd (hkp.mono fun _ z => .inl z)
    (try simp only [Exit.inBlock, Exit.then])
    exact ⟨rfl, hfin⟩
  rw [if_neg h8] at hr
  have HI := Aside0.mk (h.uint_step 8 _ _ eg (by omega))
  obtain ⟨X, hX⟩ := Int.eq_ofNat_of_zero_le hx0
  rw [hX] at HI hr h8
  rw [Int.toNat_natCast] at hr
  rw [Nat.zero_add] at HI ha3
  obtain ⟨a1, ha1⟩ : ∃ a1, gk l 0 = a1 := ⟨_, rfl⟩
  rw [ha1] at HI hr ha3
  have HX8 := Aside0.mk (show X ≤ 8 by omega)
  have HBL := Aside0.mk hbs
  by_cases hx : X = 0
  · have t1 : decide ((0 : Int) < (X : Int)) = false := decide_eq_false (by omega)
    have t2 : decide (0 < X) = false := decide_eq_false (by omega)
    rw [if_pos (by omega)] at hr
    have HTN := Aside0.mk hr
    clear h hN hbs hne hbs0 he he0 hr h8 eg hx0 hx1 ha3 hX ha1 hx
    go_enter Tryd.func18, Tryd.ntmps18
    go_wp2_with fail
    refine HI.out.mono ?_
    rintro e w2 ⟨rfl, hrd, hkp⟩
    have HM := Aside0.mk (hrd.must_end 4 (by decide))
    have HK := Aside0.mk hkp
    clear hrd hkp
    go_wp2_with fail
    refine HM.out.mono ?_
    rintro e w3 ⟨rfl, hrd, hkp⟩
    have hfin : Fin_ w0 W1 g bs A c l r (.panicked [ends g 4]) w3 := by rw [← HTN.out]; exact fin_end (r := ([], a1, 4)) (by show (4 : Int) ≠ 0; decide) hrd ((HK.out.trans hkp).mono fun _ z => .inl z)
    (try simp only [Exit.inBlock, Exit.then])
    exact ⟨rfl, hfin⟩
  have t1 : decide ((0 : Int) < (X : Int)) = true := decide_eq_true (by omega)
  have t2 : decide (0 < X) = true := decide_eq_true (by omega)
  rw [if_neg (by omega)] at hr
  have HTN := Aside0.mk hr
  have HW0 := Aside0.mk h.base.size
  clear h hN hbs hne hbs0 he he0 hr h8 eg hx0 hx1 ha3 hX ha1 hx
  go_enter Tryd.func18, Tryd.ntmps18
  go_wp2_with fail
  refine HI.out.mono ?_
  rintro e w2 ⟨rfl, hrd, hkp⟩
  have HM := Aside0.mk (hrd.must_step true 4 (.inl rfl))
  have HK := Aside0.mk hkp
  clear hrd hkp
  go_wp2_with fail
  refine HM.out.mono ?_
  rintro e w3 ⟨rfl, hrd, hkp⟩
  have HBM := Aside0.mk (show W1.heap.size ≤ w3.heap.size from Nat.le_trans HK.out.size hkp.size)
  have HT0 := Aside0.mk (show Tc w0 W1 (w3.alloc (.map #[] 0)) g bs w3.heap.size A c l a1 (fun k => W1.heap.size ≤ k) (.slice none 0 0) [] (nms []) from by
    have hk := (HK.out.trans hkp)
    have hb := below_alloc (Below.refl w3.heap.size w3) (.map #[] 0)
    exact ⟨hrd.below hb, (hk.mono fun _ z => .inl z).below hb, blk_below (hk.blk HBL.out HNE.out) hb, Kd.R_nil _ _ _ _ _, held_new w3⟩)
  obtain ⟨bm, hbm⟩ : ∃ bm, w3.heap.size = bm := ⟨_, rfl⟩
  rw [hbm] at HBM HT0
  have HMG := Aside0.mk (show bm ≠ g by have := HBM.out; have := HG.out; omega)
  have HMS := Aside0.mk (show bm ≠ bs by have := HBM.out; have := HBS.out; omega)
  clear hrd hkp HM HK HI HBL
  go_wp2_with fail
  (try rw [hbm])
  generalize w3.alloc (.map #[] 0) = w4 at *
  clear hbm w3 w2
  go_loopw [5, 14] (fun cv i wr => ∃ (j a : Nat) (v : Value) (xs : List Col), j ≤ X ∧ i = .int .u64 (j : Int) ∧ Aside0 (xs.length = j) ∧ Aside0 (rgo l (X - j) a xs = r) ∧ Aside0 (Tc w0 W1 wr g bs bm A c l a (fun k => W1.heap.size ≤ k) v xs (nms xs))) (fun _ i _ => X - (intOf i).toNat)
  case atStart => exact ⟨0, a1, _, [], by omega, rfl, ⟨rfl⟩, ⟨HTN.out⟩, ⟨HT0.out⟩⟩
  case round =>
    clear HTN HT0
    obtain ⟨j, a, v, xs, hj, rfl, HXS, HTT, HT⟩ := hrel
    by_cases hlt : j < X
    · have u1 : decide ((j : Int) < (X : Int)) = true := decide_eq_true (by omega)
      have u2 : decide (j < X) = true := decide_eq_true hlt
      have HLT := Aside0.mk hlt
      obtain ⟨m, hm⟩ : ∃ m, X - j = m + 1 := ⟨X - j - 1, by omega⟩
      have HM := Aside0.mk hm
      rw [hm] at HTT
      clear hj hlt hm
      by_cases hbe : be l a 32 ≠ 0
      · have htt := HTT.out
        rw [rgo, if_pos hbe] at htt
        have HBE := Aside0.mk (bytes_end HT.out.rd 32 (by decide) hbe)
        obtain ⟨E, hE⟩ : ∃ E, be l a 32 = E := ⟨_, rfl⟩
        rw [hE] at HBE htt hbe
        have HTN := Aside0.mk htt
        have HNZ := Aside0.mk hbe
        clear hbe hE htt HTT
        go_wp2_with fail
        refine HBE.out.mono ?_
        rintro e w5 ⟨rfl, hrd, hkp⟩
        have hfin : Fin_ w0 W1 g bs A c l r (.panicked [ends g E]) w5 := by rw [← HTN.out]; exact fin_end (r := ([], a, E)) HNZ.out hrd (HT.out.kp.trans (hkp.mono fun _ z => .inl z))
        (try simp only [Exit.inBlock, Exit.then])
        exact ⟨rfl, hfin⟩
      have hb0 : be l a 32 = 0 := Decidable.not_not.1 hbe
      have HBS2 := Aside0.mk (bytes_step HT.out.rd 32 (by decide) hb0)
      obtain ⟨-, -, hbk, hbl, hbx0, hbx1, -⟩ := b_ok HT.out.rd.by_ HT.out.rd.le hb0
      have htt := HTT.out
      obtain ⟨s, hs⟩ : ∃ s, strOfNums (bx l a 32) = s := ⟨_, rfl⟩
      obtain ⟨a', ha'⟩ : ∃ a', a + bk l a 32 = a' := ⟨_, rfl⟩
      obtain ⟨k, hk⟩ : ∃ k, rd l (a' : Int) = k := ⟨_, rfl⟩
      have HKK := Aside0.mk hk
      rw [rgo_step hs ha' hk hb0] at htt
      have HSZ := Aside0.mk (show s.size ≤ 32 from by rw [← hs, nums_size]; omega)
      obtain ⟨p, hp⟩ : ∃ p, bx l a 32 = p := ⟨_, rfl⟩
      rw [hp] at HBS2 hs
      rw [ha'] at HBS2 hbk
      have HS := Aside0.mk hs
      have HT2 := Aside0.mk htt
      have HA' := Aside0.mk hbk
      clear hbe hb0 hs ha' hk hp htt hbk hbl hbx0 hbx1 HTT
      go_wp2_with fail
      refine HBS2.out.mono ?_
      rintro e w5 ⟨A2, c2, rfl, hC, hrd, hkp⟩
      have kc := Kd.C_string (P := Tryd.prog) (c := c2) Tryd.underlying22 Tryd.underlying5 Tryd.underlying9 hC
      rw [HS.out] at kc
      replace HT := Aside0.mk (HT.out.step HNE.out HMG.out (fun k hk => by have := HG.out; omega) hrd hkp)
      replace HT := Aside0.mk HT.out.narrow
      clear hC hrd hkp HBS2 HS
      go_wp2_with fail
      clear kc
      have hb := below_alloc (Below.refl w5.heap.size w5) (.cells #[.string s, .int .i64 0] 53)
      have BX := Aside0.mk (heap_alloc_new w5 (.cells #[.string s, .int .i64 0] 53))
      have HGC := Aside0.mk (show W1.heap.size ≤ w5.heap.size from HT.out.kp.size)
      have HGM := Aside0.mk (show w5.heap.size ≠ bm by have := HT.out.map.lt; omega)
      replace HT := Aside0.mk (HT.out.below hb)
      obtain ⟨gc, hgc⟩ : ∃ gc, w5.heap.size = gc := ⟨_, rfl⟩
      rw [hgc] at BX HGC HGM HT ⊢
      obtain ⟨w6, hw6⟩ : ∃ w6, w5.alloc (.cells #[.string s, .int .i64 0] 53) = w6 := ⟨_, rfl⟩
      rw [hw6] at BX HT ⊢
      have HTK := Aside0.mk (take_calls HT.out.map (by unfold nms; rw [List.length_reverse, List.length_map]; have := HXS.out; have := HLT.out; have := HX8.out; omega) s (by have := HSZ.out; omega))
      have HGG := Aside0.mk (show gc ≠ g by have := HGC.out; have := HG.out; omega)
      have HOK := Aside0.mk (show ∀ k, (W1.heap.size ≤ k ∧ k ≠ gc) → k ≠ g from fun k hk => by have := HG.out; omega)
      clear hw6 hgc hb w5
      refine HTK.out.mono ?_
      rintro e w7 ⟨rfl, hm, hbt⟩
      replace HT := Aside0.mk (HT.out.took HMG.out HMS.out HBM.out (Nat.le_trans HW0.out HBM.out) hm hbt)
      replace BX := Aside0.mk (hbt.kp.blk BX.out HGM.out)
      clear hm hbt HTK w6
      obtain ⟨f, hf⟩ : ∃ f, fine (nms xs) s = f := ⟨_, rfl⟩
      rw [hf] at HT2 ⊢
      clear hf
      cases f
      case false =>
        have HMU := Aside0.mk (HT.out.rd.must_end 2 (by decide))
        have HTN := Aside0.mk ((if_pos rfl).symm.trans HT2.out)
        clear HT2
        go_wp2_with fail
        refine HMU.out.mono ?_
        rintro e w8 ⟨rfl, hrd, hkp⟩
        have hfin : Fin_ w0 W1 g bs A c l r (.panicked [ends g 2]) w8 := by rw [← HTN.out]; exact fin_end (r := ([], a', 2)) (by show (2 : Int) ≠ 0; decide) hrd (HT.out.kp.trans (hkp.mono fun _ z => .inl z))
        (try simp only [Exit.inBlock, Exit.then])
        exact ⟨rfl, hfin⟩
      have HT3 := Aside0.mk ((if_neg (show ¬ (true = false) from Bool.noConfusion)).symm.trans HT2.out)
      have HMU := Aside0.mk (HT.out.rd.must_step true 2 (.inl rfl))
      clear HT2
      go_wp2_with fail
      refine HMU.out.mono ?_
      rintro e w8 ⟨rfl, hrd, hkp⟩
      replace HT := Aside0.mk (HT.out.step HNE.out HMG.out HOK.out hrd hkp)
      replace BX := Aside0.mk (hkp.blk BX.out HGG.out)
      clear hrd hkp HMU w7
      by_cases hl2 : ¬ (a' < l.length)
      · obtain rfl : a' = l.length := by have := HA'.out; omega
        have HBE := Aside0.mk HT.out.rd.byte_end
        have HTN := Aside0.mk ((if_pos hl2).symm.trans HT3.out)
        clear hl2 HT3
        go_wp2_with fail
        refine HBE.out.mono ?_
        rintro e w9 ⟨rfl, hrd, hkp⟩
        have hfin : Fin_ w0 W1 g bs A c l r (.panicked [ends g 5]) w9 := by rw [← HTN.out]; exact fin_end (r := ([], l.length, 5)) (by show (5 : Int) ≠ 0; decide) hrd (HT.out.kp.trans (hkp.mono fun _ z => .inl z))
        (try simp only [Exit.inBlock, Exit.then])
        exact ⟨rfl, hfin⟩
      have HT4 := Aside0.mk ((if_neg hl2).symm.trans HT3.out)
      have HB1 := Aside0.mk (HT.out.rd.byte_step (Decidable.not_not.1 hl2))
      rw [HKK.out] at HB1
      have hk0 : 0 ≤ k ∧ k < 256 := by
        rw [← HKK.out]
        exact HBY.out.rd_ a'
      have HK0 := Aside0.mk hk0
      have wk : wrap64 k = k := ScG.w64 (by omega) (by omega)
      clear HT3 hl2 hk0
      go_wp2_with fail
      clear wk
      refine HB1.out.mono ?_
      rintro e w9 ⟨rfl, hrd, hkp⟩
      replace HT := Aside0.mk (HT.out.step HNE.out HMG.out HOK.out hrd hkp)
      replace BX := Aside0.mk (hkp.blk BX.out HGG.out)
      have wk : wrap64 k = k := ScG.w64 (by have := HK0.out; omega) (by have := HK0.out; omega)
      have f1 := blk_frozen BX.out 1
      have c1 : w9.cell? ⟨gc, 1, none⟩ = some (.int .i64 0) := (blk_cell BX.out 1).trans rfl
      clear hrd hkp HB1 w8
      go_wp2_with fail
      clear wk f1 c1
      have BX2 : (w9.setCell ⟨gc, 1, none⟩ (.int .i64 k)).heap[gc]? = some (.cells #[.string s, .int .i64 k] 53 (0, 0)) := blk_put BX.out 1 (.int .i64 k) rfl
      have HT5 := HT.out.put (p := ⟨gc, 1, none⟩) HGG.out (by have := HGC.out; have := HBS.out; show gc ≠ bs; omega) HGM.out HGC.out (Nat.le_trans HW0.out HGC.out) (fun k hk => hk.2) (.int .i64 k)
      obtain ⟨w10, hw10⟩ : ∃ w10, w9.setCell ⟨gc, 1, none⟩ (.int .i64 k) = w10 := ⟨_, rfl⟩
      rw [hw10] at BX2 HT5 ⊢
      replace BX := Aside0.mk BX2
      replace HT := Aside0.mk HT5
      have HKC := Aside0.mk (kindly_calls k w10 (HNW.out _ HT.out.rd.base))
      clear BX2 HT5 hw10 w9
      refine HKC.out.mono ?_
      rintro e w11 ⟨rfl, hb⟩
      replace HT := Aside0.mk (HT.out.below hb)
      replace BX := Aside0.mk (blk_below BX.out hb)
      clear hb HKC w10
      by_cases hk6 : ¬ (0 ≤ k ∧ k < 6)
      · have HMU := Aside0.mk (HT.out.rd.must_end 10 (by decide))
        have HTN := Aside0.mk ((if_pos hk6).symm.trans HT4.out)
        rw [decide_eq_false hk6]
        clear hk6 HT4
        go_wp2_with fail
        refine HMU.out.mono ?_
        rintro e w12 ⟨rfl, hrd, hkp⟩
        have hfin : Fin_ w0 W1 g bs A c l r (.panicked [ends g 10]) w12 := by rw [← HTN.out]; exact fin_end (r := ([], a' + 1, 10)) (by show (10 : Int) ≠ 0; decide) hrd (HT.out.kp.trans (hkp.mono fun _ z => .inl z))
        (try simp only [Exit.inBlock, Exit.then])
        exact ⟨rfl, hfin⟩
      have HMU := Aside0.mk (HT.out.rd.must_step true 10 (.inl rfl))
      have HT6 := Aside0.mk ((if_neg hk6).symm.trans HT4.out)
      rw [decide_eq_true (Decidable.not_not.1 hk6)]
      clear hk6 HT4
      go_wp2_with fail
      refine HMU.out.mono ?_
      rintro e w12 ⟨rfl, hrd, hkp⟩
      replace HT := Aside0.mk (HT.out.step HNE.out HMG.out HOK.out hrd hkp)
      replace BX := Aside0.mk (hkp.blk BX.out HGG.out)
      clear hrd hkp HMU w11
      obtain ⟨B, d, rfl⟩ := Kd.R_slice HT.out.row
      have cv : w12.cell? ⟨bs, 0, none⟩ = some (.slice B xs.length d) := (blk_cell HT.out.var 0).trans rfl
      have g0 : w12.cell? ⟨gc, 0, none⟩ = some (.string s) := (blk_cell BX.out 0).trans rfl
      have g1 : w12.cell? ⟨gc, 1, none⟩ = some (.int .i64 k) := (blk_cell BX.out 1).trans rfl
      have HFR := Aside0.mk (show ∀ k, w12.heap.size ≤ k → (W1.heap.size ≤ k ∧ k ≠ gc) from fun k hk => by have := blk_lt BX.out; have := HGC.out; omega)
      go_wp2_with (at_builtin; refine Kd.R_append k53 (w0 := w0) w0.heap.size rfl (.tmp 35) (.tmp 37) 24 53 (.agg #[.string ⟨#[]⟩, .int .i64 0]) 24 rfl Tryd.underlying24 infoC rfl (by decide) (by decide) _ xs ⟨s, k⟩ [.string s, .int .i64 k] (fun k => W1.heap.size ≤ k ∧ k ≠ gc) (fun _ => False) rfl rfl (k53_mkM _ _ _ _) (fun _ h => h.elim) HFR.out HT.out.row HT.out.rd.base HT.out.rd.base.size ?aL ?_; (case aL => have := HXS.out; have := HLT.out; have := HX8.out; omega); intro v1 w13 ho hb hg hat; obtain ⟨B1, d1, rfl⟩ := Kd.R_slice ho; have HVR := Aside0.mk (HT.out.app_var HBS.out (fun k hk => hk.1) hg); have HAP := Aside0.mk (HT.out.app HNE.out HBS.out HG.out HMS.out HW0.out HS0.out (fun k hk => hk.1) ho hg); have cw := (blk_cell HVR.out 0).trans (show (#[Value.slice B xs.length d] : Array Value)[0]? = some (.slice B xs.length d) from rfl); have fw := blk_frozen HVR.out 0; have hw : ((j : Int) + 1) % 18446744073709551616 = (j : Int) + 1 := (by have := HLT.out; have := HX8.out; omega); clear ho hb hg hat)
      clear fw cw cv g0 g1 hw
      go_roundw
      case rel => exact ⟨j + 1, a' + 1, _, xs ++ [⟨s, k⟩], HLT.out, by go_num, ⟨by rw [List.length_append, HXS.out]; rfl⟩, ⟨by rw [show X - (j + 1) = m by have := HM.out; omega]; exact HT6.out⟩, ⟨by rw [nms_snoc]; have h := HAP.out.mono (ok' := fun k => W1.heap.size ≤ k) (fun k hk => hk.1); rw [List.length_append] at h; exact h⟩⟩
      case measure => have := HLT.out; simp [intOf]; omega
    · have u1 : decide ((j : Int) < (X : Int)) = false := decide_eq_false (by omega)
      have u2 : decide (j < X) = false := decide_eq_false hlt
      have htt := HTT.out
      rw [show X - j = 0 by omega, rgo] at htt
      have hfin : Fin_ w0 W1 g bs A c l r (.returned (.tuple #[])) wr := by rw [← htt]; exact fin_done HT.out
      have HF := Aside0.mk hfin
      clear hj hlt htt hfin
      go_wp2
      exact ⟨rfl, .tuple #[], by simp [results, Tryd.results18, go_sem], HF.out⟩
theorem hmf : ∀ (fn : Fn) (first cap : Array Value) (w : World), (Instr.makeFunc fn first cap).run Tryd.prog w = .ok (.func fn first cap) w := fun _ _ _ _ => rfl
/-- What Read answers: the error, and the columns. -/
def rdErr (l : List Int) : Int := if (rtk l).2.2 = 0 then (if (rtk l).2.1 < l.length then 7 else 0) else (rtk l).2.2
def rdCols (l : List Int) : List Col := if rdErr l = 0 then (rtk l).1 else []
set_option maxHeartbeats 8000000 in
theorem sread_calls {A : Option Addr} {c : Nat} {l : List Int} (w : World) (hN : NamesW w) (hr : (Kd.int .u8).C w A l.length l) (hc : l.length ≤ c) (hb : Bytes l) (hl : l.length ≤ 140737488351232) :
    Calls Tryd.prog 7 #[.slice A l.length c] w fun e w' => ∃ v, e = .returned (.tuple #[v, .int .i64 ((rtk l).2.1 : Int), .int .i64 (rdErr l)]) ∧ Kd.R k53 53 w' w.heap.size (fun _ => True) v (rdCols l) ∧ Below w.heap.size w w' := by
  have hle := rtk_le hb
  obtain ⟨r, hrr⟩ : ∃ r, rtk l = r := ⟨_, rfl⟩
  have hcf : ∀ args w, (callFunc 18 args).run Tryd.prog w = .ok (.enter 18 args) w := fun _ _ => by kernel_rfl
  have HRun := Aside0.mk (fun (W : World) (x3 : W.heap[w.heap.size]? = some (.cells #[.slice none 0 0] 24 (0, 0))) (hW : Below w.heap.size w W) =>
    run_rd (w0 := w) (W := W) (A := A) (c := c) (l := l) (fn := 18) (caps := #[.pointer (some ⟨w.heap.size, 0, none⟩)]) (fun j => j = w.heap.size)
      (fun g h1 a w' => r.2.2 = 0 ∧ a = r.2.1 ∧ ∃ v, w'.heap[w.heap.size]? = some (.cells #[v] 24 (0, 0)) ∧ Kd.R k53 53 w' w.heap.size (fun k => h1 ≤ k) v r.1)
      (fun g h1 a er w' => r.2.2 ≠ 0 ∧ a = r.2.1 ∧ er = r.2.2)
      hW hr hc hb hl (by rintro k rfl; exact blk_lt x3) hcf
      (fun g W1 hrd hbw h1 h2 => by
        have := closure_calls (bs := w.heap.size) hrd hN (blk_below x3 hbw) (by have := blk_lt x3; omega) (Nat.le_refl _)
        rw [hrr] at this
        exact this))
  have HLE := Aside0.mk hle
  unfold rdCols rdErr
  rw [hrr] at HLE ⊢
  obtain ⟨E, hE⟩ : ∃ E, (if r.2.2 = 0 then (if r.2.1 < l.length then (7 : Int) else 0) else r.2.2) = E := ⟨_, rfl⟩
  rw [hE]
  obtain ⟨C, hC⟩ : ∃ C, (if E = 0 then r.1 else []) = C := ⟨_, rfl⟩
  rw [hC]
  clear hr hc hb hl hle hcf hrr hN
  go_enter Tryd.func7, Tryd.ntmps7
  go_wp2_with (rw [hmf])
  have x3 := heap_alloc_new w (.cells #[.slice none 0 0] 24)
  have x4 := below_alloc (Below.refl w.heap.size w) (.cells #[.slice none 0 0] 24)
  refine (HRun.out _ x3 x4).mono ?_
  rintro e w2 ⟨g, h1, a, er, w3, rfl, hg1, hg2, hg3, hkA, hkB, hat, ha, hcase⟩
  have HBL := Aside0.mk (hkA.to_below x4 (by rintro k rfl; omega))
  have hn2 : ¬ ((w.alloc (.cells #[.slice none 0 0] 24)).heap.size ≤ w.heap.size ∧ w.heap.size < h1) := by
    have := blk_lt x3
    omega
  rcases hcase with ⟨⟨h0, rfl, v, hv, hR⟩, rfl⟩ | ⟨h0, rfl, rfl⟩
  · obtain ⟨B, d, hv'⟩ := Kd.R_slice hR
    subst hv'
    have c9 : w2.cell? ⟨w.heap.size, 0, none⟩ = some (.slice B r.1.length d) := (blk_cell (hkB.blk hv hn2) 0).trans rfl
    have HR2 := Aside0.mk (Kd.R_mono (ok' := fun _ => True) (Kd.R_kept hR hkB.kept (fun k hk z => by omega)) (fun _ _ => trivial))
    rw [if_pos h0] at hE
    by_cases hlt : r.2.1 < l.length
    · rw [if_pos hlt] at hE ⊢
      subst hE
      rw [if_neg (by decide)] at hC
      subst hC
      clear x3 x4 hkA hkB hat ha hv hR h0 hlt hn2 hg1 hg2 hg3
      go_wp2
      go_ret3
      exact ⟨.slice none 0 0, rfl, Kd.R_nil _ _ _ _ _, HBL.out⟩
    · rw [if_neg hlt] at hE ⊢
      subst hE
      rw [if_pos rfl] at hC
      subst hC
      clear x3 x4 hkA hkB hat ha hv hR h0 hlt hn2 hg1 hg2 hg3
      go_wp2
      go_ret3
      exact ⟨_, rfl, HR2.out, HBL.out⟩
  · rw [if_neg h0] at hE
    rw [hE] at h0 ⊢
    rw [if_neg h0] at hC
    subst hC
    have v1 : (E != 0) = true := bne_iff_ne.mpr h0
    clear x3 x4 hkA hkB hat ha h0 hn2 hg1 hg2 hg3 hE
    go_wp2
    go_ret3
    exact ⟨.slice none 0 0, rfl, Kd.R_nil _ _ _ _ _, HBL.out⟩
end Go.Proofs.YtciolchdihlgfaaDoor.Sc
/-! Columns, as an argument; the variable internal/bytealg.MaxLen in a world of the claim's. -/
namespace Go.Proofs.YtciolchdihlgfaaDoor.Sc
open Go.RowKit Go.Proofs.YtciolchdihlgfaaDoorW.PrintWords Go.Proofs.YtciolchdihlgfaaDoor.PSc Go.Proofs.YtciolchdihlgfaaDoor.RowW
set_option linter.unusedVariables false
set_option maxRecDepth 100000
structure WfC (l : List S53) : Prop where
  len : l.length ≤ 5864062014635
  text : ∀ x ∈ l, x.f0.size ≤ 140737488351232
theorem opensC (W : World) : Opens Tryd.prog W (Kd.slice 53 k53) 24 WfC := by
  refine opens_mono (opens_slice Tryd.underlying24 (by kernel_rfl) (opens_iso (opens_struct Tryd.underlying53 (by kernel_rfl)
    (opensF_cons (opens_string Tryd.underlying9) rfl (by kernel_rfl) (opensF_one (opens_int Tryd.underlying3) rfl (by kernel_rfl)))) _ (fun q => (⟨q.1, q.2⟩ : S53)) (fun _ => rfl))) ?_
  rintro xs ⟨-, h1, h2⟩
  rw [show Tryd.prog.bytesOf 53 = 24 from by kernel_rfl] at h1
  exact ⟨by unfold reachBytes at h1; omega, fun x hx => (h2 x hx).1⟩
theorem max_of {w : World} (h : w.ShapedOpen Tryd.prog) : MaxW w :=
  ⟨Go.Proofs.cell_of_shapedOpen_int (zero := #[.int .i64 0]) (t := 3) h (of_decide_eq_true (by kernel_rfl)) (by kernel_rfl) rfl (by kernel_rfl) (by kernel_rfl) Tryd.underlying3⟩
theorem sizes {l : List S53} (h : WfC l) (i : Int) : (rd_T53 l i).f0.size ≤ 9223372036854775807 :=
  Nat.le_trans (rd_size (B := 140737488351232) h.text i) (by decide)
end Go.Proofs.YtciolchdihlgfaaDoor.Sc
/-! Schema: what is read has its bytes; what has bytes is read of them. -/
namespace Go.Proofs.YtciolchdihlgfaaDoor.Sc
open Go.RowKit Go.Proofs.YtciolchdihlgfaaDoorW.PrintWords Go.Proofs.YtciolchdihlgfaaDoorW.PrintLast Go.Proofs.YtciolchdihlgfaaDoorW.PrintMore Go.Proofs.YtciolchdihlgfaaDoor.Wire Go.Proofs.YtciolchdihlgfaaDoor.PSc Go.Proofs.YtciolchdihlgfaaDoor.Co Go.Proofs.YtciolchdihlgfaaDoor.Ce Go.Proofs.YtciolchdihlgfaaDoor.Rd
set_option linter.unusedVariables false
set_option linter.unusedSimpArgs false
set_option maxRecDepth 100000
theorem bytes_str {l : List Int} (hl : Bytes l) : bytesOf (strOfNums l) = l := by
  unfold bytesOf
  rw [strOfNums_data, List.map_map]
  conv => rhs; rw [← List.map_id l]
  refine List.map_congr_left fun x hx => ?_
  have := hl x hx
  simp only [Function.comp, id]
  rw [UInt8.toNat_ofNat']
  omega
theorem bytesOf_bytes (s : ByteArray) : Bytes (bytesOf s) := by
  intro c hc
  unfold bytesOf at hc
  obtain ⟨x, -, rfl⟩ := List.mem_map.1 hc
  have := x.toNat_lt
  exact ⟨by omega, by omega⟩
theorem rd_one {l : List Int} {i : Nat} (h : i < l.length) : (l.drop i).take 1 = [rd l (i : Int)] := by
  rw [List.drop_eq_getElem_cons h]
  have : rd l (i : Int) = l[i] := by
    unfold rd
    rw [Int.toNat_natCast, List.getD_eq_getElem?_getD, List.getElem?_eq_getElem h]; rfl
  rw [this]; rfl
theorem wcs_cons (c : Col) (r : List Col) : wcs (c :: r) = wcol c ++ wcs r := by unfold wcs; rw [List.flatMap_cons]
theorem scan_cons (ks : List ByteArray) (c : Col) (r : List Col) : scan ks (c :: r) = if 32 < c.f0.size then 7 else if fine ks c.f0 = false then 2 else if ¬(0 ≤ c.f1 ∧ c.f1 < 6) then 10 else scan (c.f0 :: ks) r := rfl
theorem scan_cons0 {ks : List ByteArray} {c : Col} {r : List Col} (h : scan ks (c :: r) = 0) : c.f0.size ≤ 32 ∧ fine ks c.f0 = true ∧ (0 ≤ c.f1 ∧ c.f1 < 6) ∧ scan (c.f0 :: ks) r = 0 := by
  rw [scan_cons] at h
  split at h
  · omega
  split at h
  · omega
  split at h
  · omega
  rename_i h1 h2 h3
  exact ⟨by omega, by cases hf : fine ks c.f0; exact absurd hf h2; rfl, Decidable.not_not.1 h3, h⟩
theorem rgo_ok {l : List Int} (hb : Bytes l) : ∀ m a xs, a ≤ l.length → (rgo l m a xs).2.2 = 0 →
    ∃ r, (rgo l m a xs).1 = xs ++ r ∧ r.length = m ∧ scan (nms xs) r = 0 ∧ a ≤ (rgo l m a xs).2.1 ∧ (rgo l m a xs).2.1 ≤ l.length ∧ (l.drop a).take ((rgo l m a xs).2.1 - a) = wcs r
  | 0, a, xs, h, _ => ⟨[], by rw [rgo, List.append_nil], rfl, rfl, Nat.le_refl _, h, by rw [rgo, Nat.sub_self]; rfl⟩
  | m + 1, a, xs, h, h0 => by
    rw [rgo] at h0 ⊢
    split at h0
    · rename_i h1; exact absurd h0 h1
    rename_i h1
    rw [if_neg h1]
    obtain ⟨-, hk1, hk2, hbl, hx0, hx1, hbb, -, -, htk⟩ := b_ok hb h (Decidable.not_not.1 h1)
    split at h0
    · simp at h0
    rename_i h2
    rw [if_neg h2]
    split at h0
    · simp at h0
    rename_i h3
    rw [if_neg h3]
    split at h0
    · simp at h0
    rename_i h4
    rw [if_neg h4]
    have h3' := Decidable.not_not.1 h3
    have h4' := Decidable.not_not.1 h4
    obtain ⟨r, e1, e2, e3, e4, e5, e6⟩ := rgo_ok hb m (a + bk l a 32 + 1) _ h3' h0
    have hsz : (strOfNums (bx l a 32)).size = (bx l a 32).length := nums_size _
    refine ⟨⟨strOfNums (bx l a 32), rd l ((a + bk l a 32 : Nat) : Int)⟩ :: r, by rw [e1, List.append_assoc]; rfl, by rw [List.length_cons, e2], ?_, by omega, e5, ?_⟩
    · rw [scan_cons, if_neg (by show ¬ 32 < (strOfNums (bx l a 32)).size; rw [hsz, hbl]; omega), if_neg h2, if_neg (not_not_intro h4')]
      rw [nms_snoc] at e3
      exact e3
    · rw [wcs_cons, ← e6]
      unfold wcol
      show _ = uv (strOfNums (bx l a 32)).size ++ bytesOf (strOfNums (bx l a 32)) ++ [rd l ((a + bk l a 32 : Nat) : Int) % 256] ++ _
      rw [hsz, bytes_str hbb, ← htk, show rd l ((a + bk l a 32 : Nat) : Int) % 256 = rd l ((a + bk l a 32 : Nat) : Int) by omega, ← rd_one h3']
      obtain ⟨B, hB⟩ : ∃ B, (rgo l m (a + bk l a 32 + 1) (xs ++ [⟨strOfNums (bx l a 32), rd l ((a + bk l a 32 : Nat) : Int)⟩])).2.1 = B := ⟨_, rfl⟩
      rw [hB] at e4 ⊢
      rw [show B - a = bk l a 32 + (1 + (B - (a + bk l a 32 + 1))) by omega, List.take_add, List.drop_drop, List.take_add, List.drop_drop, List.append_assoc]
theorem rtk_ok {l : List Int} (hb : Bytes l) (h : (rtk l).2.2 = 0) (h2 : (rtk l).2.1 = l.length) : sck (rtk l).1 = 0 ∧ wS (rtk l).1 = l := by
  unfold rtk at h h2 ⊢
  split at h
  · rename_i h1; exact absurd h h1
  rename_i h1
  rw [if_neg h1] at h2 ⊢
  obtain ⟨-, g1, g2, g3, g4, g5, g6⟩ := g_ok hb (Nat.zero_le _) (Decidable.not_not.1 h1)
  split at h
  · simp at h
  rename_i h8
  rw [if_neg h8] at h2 ⊢
  split at h
  · simp at h
  rename_i h0
  rw [if_neg h0] at h2 ⊢
  obtain ⟨r, e1, e2, e3, e4, e5, e6⟩ := rgo_ok hb _ _ _ (by omega) h
  rw [h2] at e6
  rw [e1, List.nil_append]
  refine ⟨?_, ?_⟩
  · unfold sck
    rw [if_neg (by omega), if_neg (by omega)]
    exact e3
  · unfold wS
    rw [e2, ← e6, g6]
    have : (l.drop (gk l 0)).take (l.length - gk l 0) = l.drop (gk l 0) := List.take_of_length_le (by rw [List.length_drop]; exact Nat.le_refl _)
    rw [this, List.drop_zero, List.take_append_drop]
theorem wcol_eq (c : Col) (h : 0 ≤ c.f1 ∧ c.f1 < 6) : wcol c = uv (bytesOf c.f0).length ++ (bytesOf c.f0 ++ [c.f1]) := by
  unfold wcol
  rw [bytesOf_length, show c.f1 % 256 = c.f1 by omega, List.append_assoc]
theorem rgo_at {l : List Int} : ∀ (r : List Col) (a : Nat) (xs : List Col) (t : List Int), l.drop a = wcs r ++ t → a ≤ l.length → scan (nms xs) r = 0 → rgo l r.length a xs = (xs ++ r, a + (wcs r).length, 0)
  | [], a, xs, t, h, ha, hs => by rw [List.append_nil]; rfl
  | c :: r, a, xs, t, h, ha, hs => by
    obtain ⟨s1, s2, s3, s4⟩ := scan_cons0 hs
    rw [wcs_cons, wcol_eq c s3] at h
    have h' : l.drop a = uv (bytesOf c.f0).length ++ (bytesOf c.f0 ++ ([c.f1] ++ (wcs r ++ t))) := by rw [h]; simp only [List.append_assoc]
    obtain ⟨b1, b2, b3⟩ := b_at (m := 32) (by rw [bytesOf_length]; omega) (by rw [bytesOf_length]; omega) h'
    have hdr : l.drop (a + bk l a 32) = [c.f1] ++ (wcs r ++ t) := by
      rw [← List.drop_drop, h', ← List.append_assoc, b3, List.drop_left]
    have hlt : a + bk l a 32 < l.length := by
      have := congrArg List.length hdr
      rw [List.length_drop, List.length_append, List.length_singleton] at this
      omega
    have hrd : rd l ((a + bk l a 32 : Nat) : Int) = c.f1 := by
      have := rd_one hlt
      rw [hdr] at this
      simp only [List.cons_append, List.nil_append, List.take_succ_cons, List.take_zero, List.cons.injEq, and_true] at this
      exact this.symm
    have hdr2 : l.drop (a + bk l a 32 + 1) = wcs r ++ t := by
      rw [← List.drop_drop, hdr]; rfl
    rw [List.length_cons, rgo, if_neg (by rw [b1]; simp), b2, str_bytes_, s2, if_neg (by simp), if_neg (not_not_intro hlt), hrd, if_neg (not_not_intro s3), rgo_at r _ _ t hdr2 hlt (by rw [nms_snoc]; exact s4)]
    rw [wcs_cons, wcol_eq c s3]
    have e : a + bk l a 32 + 1 + (wcs r).length = a + (uv (bytesOf c.f0).length ++ (bytesOf c.f0 ++ [c.f1]) ++ wcs r).length := by
      rw [b3]
      simp only [List.length_append, List.length_singleton]
      omega
    rw [List.append_assoc, e]
    rfl
theorem gb_nil : gb [] 32 = ([], 0, 5) := by
  have h : gu ([] : List Int) = (0, 0, 5) := gu_short (x := 0) (n := 0) (by decide) (by rw [Go.Proofs.YtciolchdihlgfaaDoor.Wire.usz_small (by decide)]; decide)
  have := gb_eq [] 0 32
  unfold ge at this
  rw [List.drop_nil] at this
  rw [this, h, if_pos (by decide)]
theorem rgo_short {l : List Int} : ∀ (r : List Col) (a : Nat) (xs : List Col) (p q : List Int), l.drop a = p → p ++ q = wcs r → q ≠ [] → a ≤ l.length → scan (nms xs) r = 0 → (rgo l r.length a xs).2.2 = 5
  | [], a, xs, p, q, h, hpq, hq, ha, hs => by
    have := congrArg List.length hpq
    rw [List.length_append] at this
    have h2 : 0 < q.length := List.length_pos_iff.2 hq
    rw [show (wcs []).length = 0 from rfl] at this
    omega
  | c :: r, a, xs, p, q, h, hpq, hq, ha, hs => by
    obtain ⟨s1, s2, s3, s4⟩ := scan_cons0 hs
    rw [wcs_cons, wcol_eq c s3] at hpq
    have hbl := bytesOf_length c.f0
    rw [List.length_cons, rgo]
    have hu : uv (bytesOf c.f0).length = [((bytesOf c.f0).length : Int)] := uv_small (by omega)
    rw [hu] at hpq
    match p, h, hpq with
    | [], h, hpq =>
      have hbe : be l a 32 = 5 := by unfold be; rw [h, gb_nil]
      rw [hbe, if_pos (by decide)]
    | x :: p', h, hpq =>
      simp only [List.cons_append, List.nil_append, List.cons.injEq] at hpq
      obtain ⟨rfl, hpq⟩ := hpq
      have hgu : gu (l.drop a) = (((bytesOf c.f0).length : Int), 1, 0) := by
        have := gu_uv (x := (bytesOf c.f0).length) (by omega) p'
        rw [hu, Go.Proofs.YtciolchdihlgfaaDoor.Wire.usz_small (by omega)] at this
        rw [h]; exact this
      by_cases h1 : p'.length < (bytesOf c.f0).length
      · have hbe : be l a 32 = 5 := by
          unfold be
          rw [gb_eq]
          unfold ge gx
          rw [hgu]
          dsimp only
          rw [if_neg (by decide), if_neg (by omega), if_pos (by rw [h, List.length_cons]; omega)]
        rw [hbe, if_pos (by decide)]
      have hp' : p' = bytesOf c.f0 ++ p'.drop (bytesOf c.f0).length := by
        have h3 : p'.take (bytesOf c.f0).length = bytesOf c.f0 := by
          have := congrArg (List.take (bytesOf c.f0).length) hpq
          rw [List.take_append_of_le_length (by omega), List.append_assoc, List.take_left] at this
          exact this
        conv => lhs; rw [← List.take_append_drop (bytesOf c.f0).length p', h3]
      obtain ⟨t, ht⟩ : ∃ t, p'.drop (bytesOf c.f0).length = t := ⟨_, rfl⟩
      rw [ht] at hp'
      subst hp'
      rw [List.append_assoc, List.append_assoc] at hpq
      have hpq := List.append_cancel_left hpq
      have h' : l.drop a = uv (bytesOf c.f0).length ++ (bytesOf c.f0 ++ t) := by rw [h, hu]; rfl
      obtain ⟨b1, b2, b3⟩ := b_at (m := 32) (by omega) (by omega) h'
      have hdr : l.drop (a + bk l a 32) = t := by
        rw [← List.drop_drop, h', ← List.append_assoc, b3, List.drop_left]
      rw [if_neg (by rw [b1]; simp), b2, str_bytes_, s2, if_neg (by simp)]
      match t, hpq, hdr with
      | [], hpq, hdr =>
        have := congrArg List.length hdr
        rw [List.length_drop, List.length_nil] at this
        rw [if_pos (by omega)]
      | y :: t', hpq, hdr =>
        simp only [List.cons_append, List.nil_append, List.cons.injEq] at hpq
        obtain ⟨rfl, hpq⟩ := hpq
        have hlt : a + bk l a 32 < l.length := by
          have := congrArg List.length hdr
          rw [List.length_drop, List.length_cons] at this
          omega
        have hrd : rd l ((a + bk l a 32 : Nat) : Int) = c.f1 := by
          have := rd_one hlt
          rw [hdr] at this
          simp only [List.take_succ_cons, List.take_zero, List.cons.injEq, and_true] at this
          exact this.symm
        have hdr2 : l.drop (a + bk l a 32 + 1) = t' := by
          rw [← List.drop_drop, hdr]; rfl
        rw [if_neg (not_not_intro hlt), hrd, if_neg (not_not_intro s3)]
        exact rgo_short r _ _ t' q hdr2 hpq hq hlt (by rw [nms_snoc]; exact s4)
theorem rtk_uv {l t : List Int} {n : Nat} (h : l = uv n ++ t) (h1 : 0 < n) (h8 : n ≤ 8) : rtk l = rgo l n 1 [] ∧ l.drop 1 = t ∧ 1 ≤ l.length := by
  obtain ⟨a1, a2, a3⟩ := g_at (l := l) (a := 0) (x := n) (by omega) (t := t) h
  rw [Go.Proofs.YtciolchdihlgfaaDoor.Wire.usz_small (by omega)] at a3
  unfold rtk
  rw [a1, if_neg (by decide), a2, if_neg (by omega), if_neg (by omega), a3, Int.toNat_natCast]
  refine ⟨rfl, ?_, ?_⟩
  · rw [h, uv_small (by omega)]; rfl
  · rw [h, uv_small (by omega)]; simp
theorem rtk_at {s : List Col} (hs : sck s = 0) (t : List Int) : rtk (wS s ++ t) = (s, (wS s).length, 0) := by
  obtain ⟨h1, h2⟩ := sck_small hs
  have h3 : scan [] s = 0 := by unfold sck at hs; rw [if_neg (by omega), if_neg (by omega)] at hs; exact hs
  have hw : wS s ++ t = uv s.length ++ (wcs s ++ t) := by unfold wS; rw [List.append_assoc]
  obtain ⟨e1, e2, e3⟩ := rtk_uv hw h1.1 h1.2
  rw [e1, rgo_at s 1 [] t e2 e3 h3]
  unfold wS
  rw [uv_small (by omega)]
  simp only [List.nil_append, List.length_append, List.length_singleton]
theorem rtk_short {s : List Col} (hs : sck s = 0) {i : Nat} (hi : i < (wS s).length) : (rtk ((wS s).take i)).2.2 = 5 := by
  obtain ⟨h1, h2⟩ := sck_small hs
  have h3 : scan [] s = 0 := by unfold sck at hs; rw [if_neg (by omega), if_neg (by omega)] at hs; exact hs
  have hu := uv_small (x := s.length) (by omega)
  cases i with
  | zero =>
    have hg : gu ([] : List Int) = (0, 0, 5) := gu_short (x := 0) (n := 0) (by decide) (by rw [Go.Proofs.YtciolchdihlgfaaDoor.Wire.usz_small (by decide)]; decide)
    have : ge [] 0 = 5 := by unfold ge; rw [List.drop_nil, hg]
    rw [List.take_zero]
    unfold rtk
    rw [this, if_pos (by decide)]
  | succ i =>
    have hw : (wS s).take (i + 1) = uv s.length ++ (wcs s).take i := by unfold wS; rw [hu]; rfl
    have hl : i < (wcs s).length := by unfold wS at hi; rw [hu] at hi; simpa using hi
    obtain ⟨e1, e2, e3⟩ := rtk_uv hw h1.1 h1.2
    rw [e1]
    refine rgo_short s 1 [] _ ((wcs s).drop i) e2 (List.take_append_drop _ _) (fun e => ?_) e3 h3
    have := congrArg List.length e
    rw [List.length_drop, List.length_nil] at this
    omega
end Go.Proofs.YtciolchdihlgfaaDoor.Sc
