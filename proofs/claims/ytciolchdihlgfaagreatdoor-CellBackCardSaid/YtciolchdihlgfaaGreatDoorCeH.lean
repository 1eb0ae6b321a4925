import Derived.Test.YtciolchdihlgfaaGreatDoorCeA
import Derived.Test.YtciolchdihlgfaaGreatDoorShw
/-! Cell: the text of bytes. -/
namespace Go.Proofs.YtciolchdihlgfaaGreatDoor.Ce
open Go.RowKit Go.Proofs.YtciolchdihlgfaaGreatDoorW.PrintWords Go.Proofs.YtciolchdihlgfaaGreatDoorW.PrintLast Go.Proofs.YtciolchdihlgfaaGreatDoorW.PrintMore Go.Proofs.YtciolchdihlgfaaGreatDoor.Wire Go.Proofs.YtciolchdihlgfaaGreatDoor.PCo Go.Proofs.YtciolchdihlgfaaGreatDoor.Co
set_option linter.unusedVariables false
set_option linter.unusedSimpArgs false
set_option maxRecDepth 100000
def digs : List UInt8 := [48, 49, 50, 51, 52, 53, 54, 55, 56, 57, 97, 98, 99, 100, 101, 102]
def hx_ (x : Nat) : UInt8 := digs.getD x 0
def hexs (l : List UInt8) : List UInt8 := l.flatMap fun b => [hx_ (b.toNat / 16), hx_ (b.toNat % 16)]
def hexv (s : ByteArray) : ByteArray := if s.size = 0 then ⟨#[45]⟩ else ⟨(hexs s.data.toList).toArray⟩
theorem dig_fin : ∀ n : Fin 16, (((⟨#[48, 49, 50, 51, 52, 53, 54, 55, 56, 57, 97, 98, 99, 100, 101, 102]⟩ : ByteArray)[n.val]'n.isLt).toNat : Int) = ((hx_ n.val).toNat : Int) := by decide +kernel
theorem dig_at {n : Nat} (h : n < 16) : (((⟨#[48, 49, 50, 51, 52, 53, 54, 55, 56, 57, 97, 98, 99, 100, 101, 102]⟩ : ByteArray)[n]'h).toNat : Int) = ((hx_ n).toNat : Int) := dig_fin ⟨n, h⟩
theorem hexs_len (l : List UInt8) : (hexs l).length = 2 * l.length := by
  unfold hexs
  induction l with
  | nil => rfl
  | cons x l ih => rw [List.flatMap_cons, List.length_append, ih]; simp; omega
theorem hexs_take {l : List UInt8} {j : Nat} (h : j < l.length) : hexs (l.take (j + 1)) = hexs (l.take j) ++ [hx_ (l[j].toNat / 16), hx_ (l[j].toNat % 16)] := by
  unfold hexs
  rw [List.take_add_one, List.getElem?_eq_getElem h, List.flatMap_append]
  simp
set_option maxHeartbeats 4000000 in
theorem hex_calls (s : ByteArray) (hs : s.size ≤ 1000000) (w : World) : Calls Tryz.prog 113 #[.string s] w fun e w' => e = .returned (.string (hexv s)) ∧ Below w.heap.size w w' := by
  by_cases h0 : s.size = 0
  · obtain rfl := size_zero h0
    go_enter Tryz.func113, Tryz.ntmps113
    go_wp2
    go_ret
    exact ⟨rfl, Below.refl _ _⟩
  · have t1 : (s.toList != ([] : List UInt8)) = true := bne_iff_ne.mpr (ne_empty h0)
    have t2 : (s.toList == ([] : List UInt8)) = false := beq_eq_false_iff_ne.mpr (ne_empty h0)
    have t3 : s.toList.isEmpty = false := by cases h : s.toList with | nil => exact absurd h (ne_empty h0) | cons => rfl
    rw [show hexv s = ⟨(hexs s.data.toList).toArray⟩ from if_neg h0]
    clear h0
    have hi0 := Lib.fresh_isBuilder 187 5 w
    have hb0 := below_alloc (Below.refl w.heap.size w) (.cells #[.pointer none, .slice none 0 0] 187)
    have HI0 := Aside0.mk hi0
    have HB0 := Aside0.mk hb0
    have HS := Aside0.mk hs
    clear hi0 hb0 hs
    go_enter Tryz.func113, Tryz.ntmps113
    go_wp2_with fail
    go_loopw [4, 9] (fun v i wr => ∃ (j : Nat), j ≤ s.size ∧ i = .int .i64 (j : Int) ∧ Aside0 (Lib.IsBuilder 187 5 w.heap.size w.heap.size (Lib.byteCells (hexs (s.data.toList.take j))) wr) ∧ Aside0 (Below w.heap.size w wr)) (fun v i _ => s.size - (intOf i).toNat)
    case atStart => exact ⟨0, by omega, rfl, ⟨HI0.out⟩, ⟨HB0.out⟩⟩
    case round =>
      obtain ⟨j, hj, rfl, HI, HB⟩ := hrel
      clear HI0 HB0
      by_cases hlt : j < s.size
      · have u1 : decide ((j : Int) < (s.size : Int)) = true := decide_eq_true (by omega)
        have u2 : decide (j < s.size) = true := decide_eq_true hlt
        have hmax : (j : Int) + 1 ≤ 9223372036854775807 := by have := HS.out; omega
        have p0 : (0 ≤ (j : Int)) = True := eq_true (by omega)
        have p1 : ((j : Int) < (s.size : Int)) = True := eq_true (by omega)
        obtain ⟨x, hx⟩ : ∃ x : Nat, ∀ h : j < s.size, ((s[j]'h).toNat : Int) = (x : Int) := ⟨(s[j]'hlt).toNat, fun h => rfl⟩
        have hx0 : x < 256 := by have := hx hlt; have := (s[j]'hlt).toNat_lt; omega
        have HX := Aside0.mk (show hexs (s.data.toList.take (j + 1)) = hexs (s.data.toList.take j) ++ [hx_ (x / 16), hx_ (x % 16)] from by
          rw [hexs_take (by rw [data_length]; exact hlt)]
          have e : (s.data.toList[j]'(by rw [data_length]; exact hlt)).toNat = x := by have := hx hlt; simp only [ByteArray.getElem_eq_getElem_data] at this; rw [Array.getElem_toList]; omega
          rw [e])
        have HLT := Aside0.mk hlt
        have q0 : (0 ≤ (x : Int) / 16) = True := eq_true (by omega)
        have q1 : ((x : Int) / 16 < 16) = True := eq_true (by omega)
        have q2 : (0 ≤ (x : Int) % 16) = True := eq_true (by omega)
        have q3 : ((x : Int) % 16 < 16) = True := eq_true (by omega)
        obtain ⟨y, hy⟩ : ∃ y : Nat, ∀ h : x / 16 < (⟨#[48, 49, 50, 51, 52, 53, 54, 55, 56, 57, 97, 98, 99, 100, 101, 102]⟩ : ByteArray).size, (((⟨#[48, 49, 50, 51, 52, 53, 54, 55, 56, 57, 97, 98, 99, 100, 101, 102]⟩ : ByteArray)[x / 16]'h).toNat : Int) = (y : Int) := ⟨(hx_ (x / 16)).toNat, fun h => dig_at h⟩
        obtain ⟨z, hz⟩ : ∃ z : Nat, ∀ h : x % 16 < (⟨#[48, 49, 50, 51, 52, 53, 54, 55, 56, 57, 97, 98, 99, 100, 101, 102]⟩ : ByteArray).size, (((⟨#[48, 49, 50, 51, 52, 53, 54, 55, 56, 57, 97, 98, 99, 100, 101, 102]⟩ : ByteArray)[x % 16]'h).toNat : Int) = (z : Int) := ⟨(hx_ (x % 16)).toNat, fun h => dig_at h⟩
        have HYZ := Aside0.mk (show y = (hx_ (x / 16)).toNat ∧ z = (hx_ (x % 16)).toNat from by
          have d1 : x / 16 < 16 := by omega
          have d2 : x % 16 < 16 := by omega
          have e1 := hy d1
          have e2 := hz d2
          rw [dig_at d1] at e1
          rw [dig_at d2] at e2
          omega)
        have HA := Aside0.mk (show bits .and .u8 (x : Int) 15 = (x : Int) % 16 from u8_and15 _ (by omega) (by omega))
        have qa := HA.out
        clear hj hlt
        go_wp2_with fail
        refine (Tryz.Builder_WriteByte w.heap.size w.heap.size _ _ _ HI.out (by rw [Lib.byteCells, List.length_map, hexs_len]; have := HS.out; have := HLT.out; rw [List.length_take]; omega) HB.out.size).mono ?_
        rintro e w2 ⟨rfl, hi, hb⟩
        have HI2 := Aside0.mk hi
        have HB2 := Aside0.mk (HB.out.trans hb)
        clear hi hb HI HB
        go_wp2_with fail
        refine (Tryz.Builder_WriteByte w.heap.size w.heap.size _ _ _ (Or.inr HI2.out) (by rw [List.length_append, Lib.byteCells, List.length_map, hexs_len]; have := HS.out; have := HLT.out; rw [List.length_take]; simp only [List.length_cons, List.length_nil]; omega) HB2.out.size).mono ?_
        rintro e w3 ⟨rfl, hi, hb⟩
        have HI3 := Aside0.mk (show Lib.IsBuilder 187 5 w.heap.size w.heap.size (Lib.byteCells (hexs (s.data.toList.take (j + 1)))) w3 from Or.inr (by
          rw [HX.out, Lib.byteCells, List.map_append, ← Lib.byteCells]
          obtain ⟨e1, e2⟩ := HYZ.out
          rw [e1, e2] at hi
          rw [List.append_assoc] at hi
          exact hi))
        have HB3 := Aside0.mk (HB2.out.trans hb)
        clear hi hb HI2 HB2 HX HYZ qa HA
        go_wp2_with fail
        go_roundw
        case rel => exact ⟨j + 1, HLT.out, by go_num, ⟨HI3.out⟩, ⟨HB3.out⟩⟩
        case measure => have := HLT.out; simp [intOf]; omega
      · have u1 : decide ((j : Int) < (s.size : Int)) = false := decide_eq_false (by omega)
        have u2 : decide (j < s.size) = false := decide_eq_false hlt
        obtain rfl : j = s.size := by omega
        rw [show s.data.toList.take s.size = s.data.toList from List.take_of_length_le (by rw [data_length]; omega)] at HI
        clear hj hlt
        go_wp2_with fail
        refine (Tryz.Builder_String_any w.heap.size w.heap.size _ _ HI.out HB.out.size).mono ?_
        rintro e w2 ⟨rfl, hb⟩
        go_wp2_with fail
        go_ret
        exact ⟨rfl, HB.out.trans hb⟩
end Go.Proofs.YtciolchdihlgfaaGreatDoor.Ce
