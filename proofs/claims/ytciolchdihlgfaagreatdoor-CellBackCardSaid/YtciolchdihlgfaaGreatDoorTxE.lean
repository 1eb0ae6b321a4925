import Derived.Test.YtciolchdihlgfaaGreatDoorTxA
import Derived.Test.YtciolchdihlgfaaGreatDoorShs
import Derived.Shelf.Strings.SlTrimAscii
import Derived.Test.YtciolchdihlgfaaGreatDoorQTail
/-! Cell: told. -/
namespace Go.Proofs.YtciolchdihlgfaaGreatDoor.Tx
open Go.RowKit Go.Proofs.YtciolchdihlgfaaGreatDoorW.PrintWords Go.Proofs.YtciolchdihlgfaaGreatDoorW.PrintLast Go.Proofs.YtciolchdihlgfaaGreatDoorW.PrintMore Go.Proofs.YtciolchdihlgfaaGreatDoor.Wire Go.Proofs.YtciolchdihlgfaaGreatDoor.PCo Go.Proofs.YtciolchdihlgfaaGreatDoor.Co Go.Proofs.YtciolchdihlgfaaGreatDoor.Ce Go.Proofs.YtciolchdihlgfaaGreatDoor.Num
set_option linter.unusedVariables false
set_option linter.unusedSimpArgs false
set_option maxRecDepth 100000
theorem drop_nil {α : Type} (p : α → Bool) : ∀ l : List α, l.dropWhile p = [] ↔ l.all p = true
  | [] => by simp
  | a :: l => by
    rw [List.dropWhile_cons]
    cases h : p a
    · simp [h]
    · simp [h, drop_nil p l]
theorem trim_nil (l cs : List UInt8) : Lib.trimS l cs = [] ↔ l.all (cs.contains ·) = true := by
  unfold Lib.trimS Lib.trimLeftS Lib.trimRightS
  rw [drop_nil]
  constructor
  · intro h
    have e : (l.reverse.dropWhile (cs.contains ·)) = [] := by
      cases hd : l.reverse.dropWhile (cs.contains ·) with
      | nil => rfl
      | cons a t =>
        rw [hd] at h
        simp only [List.all_reverse, List.all_cons, Bool.and_eq_true] at h
        have : ¬ (cs.contains a = true) := by
          have := List.head_dropWhile_not (p := (cs.contains ·)) (l := l.reverse) (by rw [hd]; simp)
          simp only [hd, List.head_cons] at this
          rw [this]; simp
        exact absurd h.1 this
    rw [drop_nil, List.all_reverse] at e
    exact e
  · intro h
    have e : l.reverse.dropWhile (cs.contains ·) = [] := (drop_nil _ _).2 (by rw [List.all_reverse]; exact h)
    rw [e]; rfl
abbrev DG : ByteArray := ⟨#[48, 49, 50, 51, 52, 53, 54, 55, 56, 57, 97, 98, 99, 100, 101, 102]⟩
theorem dg_in' : ∀ c : Fin 256, digs.contains (UInt8.ofNat c.val) = (dg (UInt8.ofNat c.val)).isSome := by decide +kernel
theorem dg_in (c : UInt8) : digs.contains c = (dg c).isSome := by
  have := dg_in' ⟨c.toNat, c.toNat_lt⟩
  rwa [UInt8.ofNat_toNat] at this
theorem dg_ix' : ∀ c : Fin 256, ((dg (UInt8.ofNat c.val)).all fun x => Lib.indexByte digs (UInt8.ofNat c.val) == (x : Int)) = true := by decide +kernel
theorem dg_ix {c : UInt8} {x : Nat} (h : dg c = some x) : Lib.indexByte digs c = (x : Int) := by
  have := dg_ix' ⟨c.toNat, c.toNat_lt⟩
  rw [UInt8.ofNat_toNat, h] at this
  simpa using this
theorem unh_len : ∀ (n : Nat) (l t : List UInt8), l.length ≤ n → unh l = some t → l.length = 2 * t.length
  | _, [], t, _, h => by rw [unh] at h; injection h with h; rw [← h]; rfl
  | _, [_], t, _, h => by rw [unh] at h; cases h
  | n + 1, a :: b :: r, t, hn, h => by
    rw [unh] at h
    split at h
    · rename_i x y t' hx hy ht
      injection h with h
      have ih := unh_len n r t' (by simp only [List.length_cons] at hn; omega) ht
      rw [← h]; simp only [List.length_cons]; omega
    · cases h
  | 0, a :: b :: r, t, hn, h => by simp at hn
theorem unh_is : ∀ (n : Nat) (l : List UInt8), l.length ≤ n → ((unh l).isSome = true ↔ l.length % 2 = 0 ∧ l.all (digs.contains ·) = true)
  | _, [], _ => by rw [unh]; simp
  | _, [_], _ => by rw [unh]; simp
  | n + 1, a :: b :: r, hn => by
    have ih := unh_is n r (by simp only [List.length_cons] at hn; omega)
    rw [unh, List.all_cons, List.all_cons, dg_in, dg_in]
    simp only [List.length_cons, Bool.and_eq_true]
    cases ha : dg a with
    | none => simp
    | some x =>
      cases hb : dg b with
      | none => simp
      | some y =>
        cases hr : unh r with
        | none => rw [hr] at ih; simp at ih ⊢; intro h; exact ih (by omega)
        | some t =>
          rw [hr] at ih
          have := ih.1 rfl
          simp only [Option.isSome_some, true_and, true_iff]
          exact ⟨by omega, this.2⟩
  | 0, a :: b :: r, hn => by simp at hn
theorem trim16 (s : ByteArray) (h0 : 0 < s.size) (hs : s.size ≤ 9223372036854775807) (w : World) : Calls Tryz.prog 145 #[.string s, .string DG] w fun e w' => ∃ u : ByteArray, e = .returned (.string u) ∧ (u.toList = [] ↔ s.data.toList.all (digs.contains ·) = true) ∧ Below w.heap.size w w' := by
  refine (Any.strings_Trim_set Tryz.lays160 (by intro w; kernel_rfl) (by kernel_rfl) s DG w (by decide) h0 hs (by decide) (by
    intro j b hb
    have hm : b ∈ DG.data.toList := List.mem_of_getElem? hb
    have all : ∀ x ∈ DG.data.toList, x.toNat < 128 := by decide
    exact all b hm)).mono ?_
  rintro e w' ⟨rfl, q, rfl⟩
  refine ⟨_, rfl, ?_, pw_below_drewN (below_alloc (below_alloc (Below.refl _ _) _) _) q⟩
  rw [str_toList]
  show (Lib.trimS s.data.toList DG.data.toList).toArray.toList = [] ↔ _
  rw [List.toList_toArray, trim_nil]
  exact Iff.rfl
theorem bits_and1_i64 (a : Nat) (ha : a < 9223372036854775808) : bits .and .i64 (a : Int) 1 = ((a % 2 : Nat) : Int) := by
  have h1 : (BitVec.ofInt 64 (a : Int)).toNat = a := by
    rw [BitVec.ofInt_natCast, BitVec.toNat_ofNat]; exact Nat.mod_eq_of_lt (by omega)
  have h2 : (BitVec.ofInt 64 (1 : Int)).toNat = 1 := by decide
  show IntKind.i64.wrap ((BitVec.ofInt 64 (a : Int) &&& BitVec.ofInt 64 (1 : Int)).toNat : Int) = _
  rw [BitVec.toNat_and, h1, h2, Nat.and_one_is_mod, IntKind.wrap_i64]
  omega
theorem hl_or' : ∀ x y : Fin 16, bits BinOp.or IntKind.i64 (wrap64 ((x.val : Int) * 16)) (y.val : Int) % 256 = ((16 * x.val + y.val : Nat) : Int) := by decide +kernel
theorem hl_or {x y : Nat} (hx : x < 16) (hy : y < 16) : bits BinOp.or IntKind.i64 (wrap64 ((x : Int) * 16)) (y : Int) % 256 = ((16 * x + y : Nat) : Int) := hl_or' ⟨x, hx⟩ ⟨y, hy⟩
theorem ext2 {t : ByteArray} {a b : UInt8} {r : List UInt8} (h : t.data.toList = a :: b :: r) : (t.extract 2 t.size).data.toList = r := by
  have hl : t.size = r.length + 2 := by rw [← data_length, h]; rfl
  rw [ByteArray.data_extract, Array.toList_extract, h, List.extract_eq_take_drop, hl]
  simp
def slen : Value → Nat
  | .string t => t.size
  | _ => 0
set_option maxHeartbeats 8000000 in
theorem told_calls (s : ByteArray) (hs : s.size ≤ 2000000) (w : World) : Calls Tryz.prog 116 #[.string s] w fun e w' => e = .returned (.tuple #[.string (match told s.data.toList with | some t => ⟨t.toArray⟩ | none => E0), .bool (told s.data.toList).isSome]) ∧ Below w.heap.size w w' := by
  by_cases h1 : s.data.toList = [45]
  · have h1' : s.toList = [45] := by rw [str_toList]; exact h1
    have t1 : (s.toList == ([45] : List UInt8)) = true := by rw [h1']; rfl
    unfold told
    rw [if_pos h1]
    clear h1 h1'
    go_enter Tryz.func116, Tryz.ntmps116
    go_wp2_with fail
    go_ret2
    exact ⟨rfl, Below.refl _ _⟩
  have h1' : ¬ s.toList = [45] := by rw [str_toList]; exact h1
  have t1 : (s.toList == ([45] : List UInt8)) = false := beq_eq_false_iff_ne.mpr h1'
  by_cases h0 : s.size = 0
  · obtain rfl := size_zero h0
    go_enter Tryz.func116, Tryz.ntmps116
    go_wp2_with fail
    go_ret2
    exact ⟨rfl, Below.refl _ _⟩
  have hne := ne_empty h0
  have t2 : (s.toList != ([] : List UInt8)) = true := bne_iff_ne.mpr hne
  have t3 : (s.toList == ([] : List UInt8)) = false := beq_eq_false_iff_ne.mpr hne
  have t4 : s.toList.isEmpty = false := by cases h : s.toList with | nil => exact absurd h hne | cons => rfl
  have hl : s.data.toList.length = s.size := data_length s
  have htd : told s.data.toList = unh s.data.toList := by
    unfold told
    rw [if_neg h1, if_neg (fun e => by rw [e] at hl; simp at hl; omega)]
  rw [htd]
  have his := unh_is _ s.data.toList (Nat.le_refl _)
  rw [hl] at his
  have HT := Aside0.mk (trim16 s (by omega) (by omega) w)
  by_cases hod : s.size % 2 = 1
  · have hno : unh s.data.toList = none := by
      cases hu : unh s.data.toList with
      | none => rfl
      | some t => rw [hu] at his; have := (his.1 rfl).1; omega
    rw [hno]
    have ha : (bits BinOp.and IntKind.i64 (s.size : Int) 1 == 1) = true := by rw [bits_and1_i64 _ (by omega), hod]; rfl
    clear his htd hod hno h1 h1' h0 hne hl HT
    go_enter Tryz.func116, Tryz.ntmps116
    go_wp2_with fail
    go_ret2
    exact ⟨rfl, Below.refl _ _⟩
  have ha : (bits BinOp.and IntKind.i64 (s.size : Int) 1 == 1) = false := by rw [bits_and1_i64 _ (by omega), show s.size % 2 = 0 by omega]; rfl
  cases hu : unh s.data.toList with
  | none =>
    have HD : ¬ (s.data.toList.all (digs.contains ·) = true) := fun e => by
      rw [hu] at his
      exact absurd (his.2 ⟨by omega, e⟩) (by simp)
    have HD := Aside0.mk HD
    clear his htd hod h1 h1' h0 hne hl hu
    go_enter Tryz.func116, Tryz.ntmps116
    go_wp2_with fail
    refine HT.out.mono ?_
    rintro e w1 ⟨u, rfl, hu, hb⟩
    have HB := Aside0.mk hb
    have hun : u.toList ≠ [] := fun e => HD.out (hu.1 e)
    have q1 : (u.toList != ([] : List UInt8)) = true := bne_iff_ne.mpr hun
    have q2 : (u.toList == ([] : List UInt8)) = false := beq_eq_false_iff_ne.mpr hun
    have q3 : u.toList.isEmpty = false := by cases h : u.toList with | nil => exact absurd h hun | cons => rfl
    clear hb hu hun HD HT
    go_wp2_with fail
    go_ret2
    exact ⟨rfl, HB.out⟩
  | some T =>
    have HD := Aside0.mk ((show s.data.toList.all (digs.contains ·) = true from by rw [hu] at his; exact (his.1 rfl).2))
    have HU := Aside0.mk hu
    have HS := Aside0.mk hs
    have HLN := Aside0.mk (show T.length ≤ 1000000 from by have := unh_len _ _ _ (Nat.le_refl _) hu; omega)
    clear his htd hod h1 h1' h0 hne hl hu hs
    go_enter Tryz.func116, Tryz.ntmps116
    go_wp2_with fail
    refine HT.out.mono ?_
    rintro e w1 ⟨u, rfl, hu, hb⟩
    obtain rfl := size_zero (show u.size = 0 from by rw [← data_length, ← str_toList, hu.2 HD.out]; rfl)
    have hi0 := Lib.fresh_isBuilder 187 5 w1
    have hb0 := below_alloc (Below.refl w1.heap.size w1) (.cells #[.pointer none, .slice none 0 0] 187)
    have HW := Aside0.mk hb
    have HI0 := Aside0.mk hi0
    have HB0 := Aside0.mk hb0
    clear hb hu HD HT hi0 hb0
    clear t1 t2 t3 t4 ha
    go_wp2_with fail
    go_loopw [0] (fun i wr => ∃ (t : ByteArray) (P R : List UInt8), i = .string t ∧ Aside0 (unh t.data.toList = some R) ∧ Aside0 (P ++ R = T) ∧ Aside0 (Lib.IsBuilder 187 5 w1.heap.size w1.heap.size (Lib.byteCells P) wr) ∧ Aside0 (Below w1.heap.size w1 wr)) (fun i _ => slen i)
    case atStart => exact ⟨s, [], T, rfl, HU, ⟨rfl⟩, ⟨HI0.out⟩, HB0⟩
    case round =>
      obtain ⟨t, P, R, rfl, HU1, HP, HI, HB⟩ := hrel
      clear HI0 HB0 HU
      by_cases h0 : t.size = 0
      · obtain rfl := size_zero h0
        have hR : R = [] := by have := HU1.out; rw [show (E0 : ByteArray).data.toList = [] from rfl, unh] at this; injection this with this; exact this.symm
        have hPT : P = T := by have := HP.out; rw [hR, List.append_nil] at this; exact this
        subst hPT
        clear hR h0 HP HU1
        go_wp2_with fail
        refine (Tryz.Builder_String_any w1.heap.size w1.heap.size _ _ HI.out HB.out.size).mono ?_
        rintro e w2 ⟨rfl, hb⟩
        go_wp2_with fail
        go_ret2
        exact ⟨rfl, below_step HW.out (HB.out.trans hb)⟩
      · obtain ⟨a, b, r, hab⟩ : ∃ a b r, t.data.toList = a :: b :: r := by
          have := HU1.out
          cases ht : t.data.toList with
          | nil => have := data_length t; rw [ht] at this; simp at this; omega
          | cons a t1 =>
            cases t1 with
            | nil => rw [ht, unh] at this; cases this
            | cons b r => exact ⟨a, b, r, rfl⟩
        obtain ⟨x, y, R1, hx, hy, hR1, rfl⟩ : ∃ x y R1, dg a = some x ∧ dg b = some y ∧ unh r = some R1 ∧ UInt8.ofNat (16 * x + y) :: R1 = R := by
          have := HU1.out
          rw [hab, unh] at this
          split at this
          · rename_i x y t' h1 h2 h3
            injection this with this
            exact ⟨x, y, t', h1, h2, h3, this⟩
          · cases this
        have hsz : t.size = r.length + 2 := by rw [← data_length, hab]; rfl
        have HX := Aside0.mk (fun (W : World) => (Tryz.strings_IndexByte DG (a.toNat : Int) W).mono (R' := fun e w' => e = .returned (.int .i64 (x : Int)) ∧ w' = W) (by
          rintro e w' ⟨rfl, rfl⟩
          refine ⟨?_, rfl⟩
          have : Lib.indexByte DG.data.toList a = (x : Int) := dg_ix hx
          rw [Int.toNat_natCast, Nat.toUInt8, UInt8.ofNat_toNat, this]))
        have HY := Aside0.mk (fun (W : World) => (Tryz.strings_IndexByte DG (b.toNat : Int) W).mono (R' := fun e w' => e = .returned (.int .i64 (y : Int)) ∧ w' = W) (by
          rintro e w' ⟨rfl, rfl⟩
          refine ⟨?_, rfl⟩
          have : Lib.indexByte DG.data.toList b = (y : Int) := dg_ix hy
          rw [Int.toNat_natCast, Nat.toUInt8, UInt8.ofNat_toNat, this]))
        obtain ⟨A, hA, ha'⟩ : ∃ A : Nat, a.toNat = A ∧ ∀ h : 0 < t.size, ((t[0]'h).toNat : Int) = (A : Int) := ⟨a.toNat, rfl, fun h => by
          have : t[0] = a := by rw [ByteArray.getElem_eq_getElem_data, ← Array.getElem_toList]; simp only [hab]; rfl
          rw [this]⟩
        obtain ⟨B, hB, hb'⟩ : ∃ B : Nat, b.toNat = B ∧ ∀ h : 1 < t.size, ((t[1]'h).toNat : Int) = (B : Int) := ⟨b.toNat, rfl, fun h => by
          have : t[1] = b := by rw [ByteArray.getElem_eq_getElem_data, ← Array.getElem_toList]; simp only [hab]; rfl
          rw [this]⟩
        rw [hA] at HX
        rw [hB] at HY
        have hx16 := (hx_dg' hx).2
        have hy16 := (hx_dg' hy).2
        have s0 : 0 < t.size := by omega
        have s1 : 1 < t.size := by omega
        have s2 : 2 ≤ t.size := by omega
        have hne := ne_empty h0
        have t1 : (t.toList != ([] : List UInt8)) = true := bne_iff_ne.mpr hne
        have t2 : (t.toList == ([] : List UInt8)) = false := beq_eq_false_iff_ne.mpr hne
        have t3 : t.toList.isEmpty = false := by cases h : t.toList with | nil => exact absurd h hne | cons => rfl
        have HAB := Aside0.mk hab
        have HR1 := Aside0.mk hR1
        have HXY := Aside0.mk (And.intro hx16 hy16)
        clear hab hx hy hR1 hA hB hne h0 HU1 hsz hx16 hy16
        go_wp2_with fail
        refine QTail.wp_region_quiet_tail 9 (by kernel_rfl) (by kernel_rfl) ?_
        simp only [List.take_succ_cons, List.take_zero, List.drop_succ_cons, List.drop_zero]
        repeat (go_big_quiet_step ((go_at_call 146; first | exact Calls.quiet_of_same (HX.out _) | exact Calls.quiet_of_same (HY.out _))))
        refine wpQuiet_nil ?_
        intro _ hw'
        obtain ⟨nq, rfl⟩ := hw'
        have HID := Aside0.mk (show Lib.IsBuilder 187 5 w1.heap.size w1.heap.size (Lib.byteCells P) (wr.drewN nq) from HI.out)
        have HBD := Aside0.mk (pw_below_drewN HB.out nq)
        rw [hl_or HXY.out.1 HXY.out.2]
        clear HX HY HI HB ha' hb' s0 s1 t1 t2 t3
        generalize wr.drewN nq = wd at *
        go_wp2_with fail
        refine (Tryz.Builder_WriteByte w1.heap.size w1.heap.size _ _ _ HID.out (by rw [Lib.byteCells, List.length_map]; have := congrArg List.length HP.out; rw [List.length_append] at this; have := HLN.out; omega) HBD.out.size).mono ?_
        rintro e w2 ⟨rfl, hi, hb⟩
        have HI2 := Aside0.mk hi
        have HB2 := Aside0.mk (HBD.out.trans hb)
        clear hi hb HID HBD
        go_wp2_with fail
        go_roundw
        case rel =>
          refine ⟨t.extract 2 t.size, P ++ [UInt8.ofNat (16 * x + y)], R1, rfl, ⟨?_⟩, ⟨?_⟩, ⟨?_⟩, HB2⟩
          · rw [ext2 HAB.out]; exact HR1.out
          · rw [List.append_assoc]; exact HP.out
          · refine Or.inr ?_
            have e := HI2.out
            rw [Lib.byteCells, List.map_append, ← Lib.byteCells]
            have h3 : (UInt8.ofNat (16 * x + y)).toNat = 16 * x + y := by have := HXY.out; rw [UInt8.toNat_ofNat']; exact Nat.mod_eq_of_lt (by omega)
            rw [show List.map (fun b : UInt8 => Value.int .u8 b.toNat) [UInt8.ofNat (16 * x + y)] = [Value.int .u8 ((16 * x + y : Nat) : Int)] from by rw [List.map_cons, List.map_nil, h3]]
            exact e
        case measure =>
          show (t.extract 2 t.size).size < t.size
          rw [ByteArray.size_extract]; omega
end Go.Proofs.YtciolchdihlgfaaGreatDoor.Tx
