import Derived.Test.YtmoopdhnnpjcfaaDoorCoAA
import Derived.Test.YtmoopdhnnpjcfaaDoorGCo
import Derived.Lib.ConvBytes
import Derived.Test.YtmoopdhnnpjcfaaDoorQTail
/-! Column: what is written of texts. -/
namespace Go.Proofs.YtmoopdhnnpjcfaaDoor.Co
open Go.RowKit Go.Proofs.YtmoopdhnnpjcfaaDoorW.PrintWords Go.Proofs.YtmoopdhnnpjcfaaDoorW.PrintLast Go.Proofs.YtmoopdhnnpjcfaaDoorW.PrintMore Go.Proofs.YtmoopdhnnpjcfaaDoor.Wire Go.Proofs.YtmoopdhnnpjcfaaDoor.PCo Go.Proofs.YtmoopdhnnpjcfaaDoor.CoG
set_option linter.unusedVariables false
set_option linter.unusedSimpArgs false
set_option maxRecDepth 100000
theorem infoB : (Tryd.prog.info? 5).map (fun i => (i.zero, i.size, i.bytes)) = some (some (.int .u8 0), 1, 1) := by kernel_rfl
theorem uint_calls (x : Int) (h0 : 0 ≤ x) (h1 : x < 18446744073709551616) (w : World) : Calls Tryd.prog 92 #[.int .u64 x] w fun e w' => ∃ v : Value, e = .returned v ∧ Kd.R (Kd.int .u8) 5 w' w.heap.size (fun _ => True) v (uv x.toNat) ∧ Below w.heap.size w w' := by
  obtain ⟨n, rfl⟩ := Int.eq_ofNat_of_zero_le h0
  rw [Int.toNat_natCast]
  exact wire_Uint.calls 12 _ _ w (uint n (by omega) 12 (by decide))
theorem wbytes_calls {A : Option Addr} {c n : Nat} {l : List Int} (hn : l.length = n) (hl : l.length ≤ 140737488351232) (hc : l.length ≤ c) (w : World) (hr : Kd.C (Kd.int .u8) w A l.length l) : Calls Tryd.prog 93 #[.slice A n c] w fun e w' => ∃ v : Value, e = .returned v ∧ Kd.R (Kd.int .u8) 5 w' w.heap.size (fun _ => True) v (uv l.length ++ l) ∧ Below w.heap.size w w' := by
  subst hn
  exact wire_Bytes.calls 12 A c l _ w hr hc (putBytes l hl 12 (by decide))
def tx (l : List S47) (i : Nat) : ByteArray := (rd_T47 l (i : Int)).f1
def nm (l : List S47) (i : Nat) : Int := (rd_T47 l (i : Int)).f0
def lastT (l : List S47) (j : Nat) : ByteArray := if j = 0 then ⟨#[]⟩ else tx l (j - 1)
def rest (a s : ByteArray) : List Int := (bytesOf s).drop (shared a s)
def tpart (a s : ByteArray) : List Int := uv (shared a s) ++ (uv (rest a s).length ++ rest a s)
def txs (l : List S47) : Nat → List Int
  | 0 => []
  | j + 1 => txs l j ++ tpart (lastT l j) (tx l j)
theorem rest_len (a s : ByteArray) : (rest a s).length = s.size - shared a s := by unfold rest; rw [List.length_drop, bytesOf_length]
theorem tpart_len {a s : ByteArray} (hs : s.size ≤ 1048576) : (tpart a s).length ≤ 20 + s.size := by
  have h1 : usz (shared a s) ≤ 10 := usz_le10 (by have := (shared_le a s).2; omega)
  have h2 : usz (rest a s).length ≤ 10 := usz_le10 (by rw [rest_len]; omega)
  unfold tpart
  rw [List.length_append, List.length_append, rest_len]
  unfold usz at h1 h2
  rw [rest_len] at h2
  omega
/-- Small: no text is longer than a bound, and there are not too many. -/
structure Small (l : List S47) : Prop where
  len : l.length ≤ 1048576
  text : ∀ i, (tx l i).size ≤ 1048576
theorem txs_len {l : List S47} (h : Small l) (j : Nat) : (txs l j).length ≤ 1048596 * j := by
  induction j with
  | zero => exact Nat.le_refl _
  | succ j ih =>
    have := tpart_len (a := lastT l j) (h.text j)
    have := h.text j
    rw [txs, List.length_append]
    omega
theorem bytes_rest (s : ByteArray) (n : Nat) : bytesOf (s.extract n s.size) = (bytesOf s).drop n := by
  unfold bytesOf
  rw [Lib.extract_to_end, List.map_drop]
theorem ext_size (s : ByteArray) (n : Nat) : (s.extract n s.size).size = s.size - n := by
  rw [← bytesOf_length, bytes_rest, List.length_drop, bytesOf_length]
set_option maxHeartbeats 8000000 in
theorem writeTexts_calls {A : Option Addr} {c : Nat} {l : List S47} (w : World) (hr : Kd.C k47 w A l.length l) (hs : Small l) :
    Calls Tryd.prog 108 #[.slice A l.length c] w fun e w' => ∃ v, e = .returned v ∧ Kd.R (Kd.int .u8) 5 w' w.heap.size (fun _ => True) v (txs l l.length) ∧ Below w.heap.size w w' := by
  have HR := Aside0.mk hr
  have HS := Aside0.mk hs
  obtain ⟨n, hn⟩ : ∃ n, l.length = n := ⟨_, rfl⟩
  have HN := Aside0.mk hn
  have hnb : n ≤ 1048576 := by have := hs.len; omega
  rw [hn]
  clear hr hs hn
  have hz : lastT l 0 = ⟨#[]⟩ := rfl
  go_enter Tryd.func108, Tryd.ntmps108
  go_wp2
  go_loopw [3, 4, 10] (fun v la i wr => ∃ j : Nat, j ≤ n ∧ i = .int .i64 (j : Int) ∧ la = .string (lastT l j) ∧ Aside0 (Kd.R (Kd.int .u8) 5 wr w.heap.size (fun _ => True) v (txs l j)) ∧ Aside0 (Below w.heap.size w wr)) (fun _ _ i _ => n - (intOf i).toNat)
  case atStart => exact ⟨0, by omega, rfl, rfl, ⟨Kd.R_nil _ _ _ _ _⟩, ⟨Below.refl _ _⟩⟩
  case round =>
    obtain ⟨j, hj, rfl, rfl, HO, HB⟩ := hrel
    clear hz
    obtain ⟨A5, c5, rfl⟩ := Kd.R_slice HO.out
    by_cases hlt : j < n
    · have u1 : decide ((j : Int) < (n : Int)) = true := decide_eq_true (by omega)
      have u2 : decide (j < n) = true := decide_eq_true hlt
      have HLT := Aside0.mk hlt
      obtain ⟨ad, e, h0, h1⟩ := at_T47 (Kd.C_below HR.out HB.out) (j : Int) (by omega) (by have := HN.out; omega)
      cases e
      rw [Int.toNat_natCast] at h0 h1
      have p1 : (0 ≤ (j : Int)) = True := eq_true (by omega)
      have p2 : ((j : Int) < (n : Int)) = True := eq_true (by omega)
      have hmax : (j : Int) + 1 ≤ 9223372036854775807 := by omega
      have HTX := Aside0.mk (show txs l (j + 1) = txs l j ++ tpart (lastT l j) (tx l j) from rfl)
      have HLE := Aside0.mk (txs_len HS.out (j + 1))
      have HLA := Aside0.mk (show lastT l (j + 1) = tx l j from by unfold lastT; rw [if_neg (by omega)]; rfl)
      have HST := Aside0.mk (HS.out.text j)
      have HSL := Aside0.mk (show (lastT l j).size ≤ 1048576 from by unfold lastT; split; exact Nat.zero_le _; exact HS.out.text _)
      obtain ⟨s, hse⟩ : ∃ s, tx l j = s := ⟨_, rfl⟩
      obtain ⟨nmj, hne⟩ : ∃ x, (rd_T47 l (j : Int)).f0 = x := ⟨_, rfl⟩
      obtain ⟨la, hla⟩ : ∃ la, lastT l j = la := ⟨_, rfl⟩
      rw [show (rd_T47 l (j : Int)).f1 = s from hse] at h1
      rw [hne] at h0
      rw [hse] at HTX HLA HST
      rw [hla] at HTX HSL ⊢
      have HSH := Aside0.mk (shared_le la s)
      have HCS := Aside0.mk (fun W => shared_calls la s (by have := HSL.out; omega) W)
      have HPT := Aside0.mk (show tpart la s = uv (shared la s) ++ (uv (rest la s).length ++ rest la s) from rfl)
      have HRT := Aside0.mk (show rest la s = bytesOf (s.extract (shared la s) s.size) from (bytes_rest s _).symm)
      obtain ⟨S, hS⟩ : ∃ S, shared la s = S := ⟨_, rfl⟩
      rw [hS] at HSH HCS HPT HRT
      have hsl : (S : Int) ≤ (s.size : Int) := by have := HSH.out; omega
      have hsb : (s.size : Int) ≤ 1048576 := by have := HST.out; omega
      have hs0 : S ≤ s.size := HSH.out.2
      have HU := Aside0.mk (fun W => uint_calls (S : Int) (by omega) (by omega) W)
      rw [Int.toNat_natCast] at HU
      clear hlt hj hse hne hla hS
      go_wp2_with fail
      refine (HCS.out _).mono ?_
      rintro e w2 ⟨rfl, b2⟩
      have hbx := blk_below (heap_alloc_new wr (.cells #[.int .u64 nmj, .string s] 47)) b2
      have HBX := Aside0.mk hbx
      have HB2 := Aside0.mk (below_step (below_alloc HB.out (.cells #[.int .u64 nmj, .string s] 47)) b2)
      have HO2 := Aside0.mk (Kd.R_below (Kd.R_alloc HO.out (.cells #[.int .u64 nmj, .string s] 47)) b2)
      clear hbx b2 HO HB h0 h1
      go_wp2_with fail
      refine (HU.out _).mono ?_
      rintro e w3 ⟨v3, rfl, hv3, b3⟩
      have HV3 := Aside0.mk hv3
      have HO3 := Aside0.mk (Kd.R_below HO2.out b3)
      have HB3 := Aside0.mk (below_step HB2.out b3)
      have HBX3 := Aside0.mk (blk_below HBX.out b3)
      clear hv3 b3 HO2 HB2 HBX HU
      obtain ⟨A6, c6, rfl⟩ := Kd.R_slice HV3.out
      have hsx : S ≤ s.size := hs0
      have kc := fun W => print_bytes (P := Tryd.prog) 9 25 5 Tryd.underlying9 Tryd.underlying25 Tryd.underlying5 (s.extract S s.size) W
      go_wp2_with (at_builtin; refine Kd.R_append_rows (Kd.int .u8) (w0 := w) w.heap.size rfl (.tmp 18) (.tmp 21) 25 5 (.int .u8 0) 1 rfl Tryd.underlying25 infoB rfl (by decide) (by omega) _ (txs l j) (uv S) A6 _ c6 (fun _ => True) (fun _ => False) rfl rfl ?aO ?aR (fun _ _ h => h) (fun _ h => h.elim) ?aF ?aB ?aS ?aL ?_; (case aO => exact HO3.out); (case aR => exact (Kd.R_reads' HV3.out).2.2); (case aF => exact fun _ _ => trivial); (case aB => exact HB3.out); (case aS => exact HB3.out.size); (case aL => have h1 := HLE.out; have h2 := congrArg List.length HTX.out; rw [HPT.out, List.length_append, List.length_append] at h2; have := HLT.out; omega); intro v4 w4 ho4 hb4 hg4 hat4; have HO4 := Aside0.mk ho4; have HB4 := Aside0.mk hb4; have HBX4 := Aside0.mk (blk_grown HBX3.out hg4 (Kd.R_ne HO3.out HBX3.out (by decide))); have c4 : w4.cell? ⟨wr.heap.size, 1, none⟩ = some (.string s) := (blk_cell HBX4.out 1).trans rfl; clear ho4 hb4 hg4 hat4)
      obtain ⟨A7, c7, rfl⟩ := Kd.R_slice HO4.out
      have hb5 : Below w.heap.size w (Lib.bytesWorld w4 5 (s.extract S s.size)) := bytes_below HB4.out HB4.out.size _ _
      have hb45 : Below w4.heap.size w4 (Lib.bytesWorld w4 5 (s.extract S s.size)) := bytes_below (Below.refl _ _) (Nat.le_refl _) _ _
      have hxl : (bytesOf (s.extract S s.size)).length = s.size - S := by rw [bytesOf_length, ext_size]
      have hrb := bytes_reads w4 5 (s.extract S s.size) (by rw [ext_size]; omega)
      have hcr : (Kd.int .u8).C (Lib.bytesWorld w4 5 (s.extract S s.size)) (some ⟨w4.heap.size, 0, none⟩) (bytesOf (s.extract S s.size)).length (bytesOf (s.extract S s.size)) := by
        rw [bytesOf_length]
        exact Kd.C_of_reads (d := (0 : Int)) (h1 := fun _ => rfl) hrb
      have HWB := Aside0.mk (wbytes_calls (c := grownCap w4 (s.size - S) 0 5) hxl (by rw [hxl]; omega) (by rw [hxl]; exact grownCap_ge _ _ _ _) _ hcr)
      have HO5 := Aside0.mk (Kd.R_below HO4.out hb45)
      have HB5 := Aside0.mk hb5
      have HBX5 := Aside0.mk (blk_below HBX4.out hb45)
      rw [← HRT.out] at HWB
      obtain ⟨W5, hW5⟩ : ∃ W5, Lib.bytesWorld w4 5 (s.extract S s.size) = W5 := ⟨_, rfl⟩
      rw [hW5] at HWB HO5 HB5 HBX5 ⊢
      clear hb5 hb45 hxl hrb hcr hW5 c4 HO4 HB4 HBX4 kc
      refine HWB.out.mono ?_
      rintro e w6 ⟨v6, rfl, hv6, b6⟩
      have HV6 := Aside0.mk hv6
      have HO6 := Aside0.mk (Kd.R_below HO5.out b6)
      have HB6 := Aside0.mk (below_step HB5.out b6)
      have HBX6 := Aside0.mk (blk_below HBX5.out b6)
      obtain ⟨pc, hpc⟩ : ∃ pc, uv (rest la s).length ++ rest la s = pc := ⟨_, rfl⟩
      rw [hpc] at HV6 HPT
      clear hv6 b6 HO5 HB5 HBX5 HWB hpc
      obtain ⟨A8, c8, rfl⟩ := Kd.R_slice HV6.out
      have HL7 := Aside0.mk (show (txs l j ++ uv S).length + pc.length ≤ 1048596 * 1048577 from by have h1 := HLE.out; have h2 := congrArg List.length HTX.out; rw [HPT.out, List.length_append, List.length_append] at h2; rw [List.length_append]; have := HLT.out; omega)
      obtain ⟨pre, hpre⟩ : ∃ pre, txs l j ++ uv S = pre := ⟨_, rfl⟩
      rw [hpre] at HO6 HL7 ⊢
      have HPRE := Aside0.mk hpre
      clear hpre
      go_wp2_with (at_builtin; refine Kd.R_append_rows (Kd.int .u8) (w0 := w) w.heap.size rfl (.tmp 23) (.tmp 29) 25 5 (.int .u8 0) 1 rfl Tryd.underlying25 infoB rfl (by decide) (by omega) _ pre pc A8 _ c8 (fun _ => True) (fun _ => False) rfl rfl ?aO ?aR (fun _ _ h => h) (fun _ h => h.elim) ?aF ?aB ?aS ?aL ?_; (case aO => exact HO6.out); (case aR => exact (Kd.R_reads' HV6.out).2.2); (case aF => exact fun _ _ => trivial); (case aB => exact HB6.out); (case aS => exact HB6.out.size); (case aL => have := HL7.out; omega); intro v9 w9 ho9 hb9 hg9 hat9; have HO9 := Aside0.mk ho9; have HB9 := Aside0.mk hb9; have HBX9 := Aside0.mk (blk_grown HBX6.out hg9 (Kd.R_ne HO6.out HBX6.out (by decide))); have c9 : w9.cell? ⟨wr.heap.size, 1, none⟩ = some (.string s) := (blk_cell HBX9.out 1).trans rfl; clear ho9 hb9 hg9 hat9)
      go_roundw
      case rel => exact ⟨j + 1, HLT.out, by go_num, by rw [HLA.out], ⟨by rw [HTX.out, HPT.out, ← List.append_assoc, HPRE.out]; exact HO9.out⟩, ⟨HB9.out⟩⟩
      case measure => have := HLT.out; simp [intOf]; omega
    · have u1 : decide ((j : Int) < (n : Int)) = false := decide_eq_false (by omega)
      have u2 : decide (j < n) = false := decide_eq_false hlt
      obtain rfl : n = j := by omega
      go_wp2
      go_ret
      exact ⟨_, rfl, HO.out, HB.out⟩
end Go.Proofs.YtmoopdhnnpjcfaaDoor.Co
/-! Column: what is written of bools. -/
namespace Go.Proofs.YtmoopdhnnpjcfaaDoor.Co
open Go.RowKit Go.Proofs.YtmoopdhnnpjcfaaDoorW.PrintWords Go.Proofs.YtmoopdhnnpjcfaaDoorW.PrintLast Go.Proofs.YtmoopdhnnpjcfaaDoorW.PrintMore Go.Proofs.YtmoopdhnnpjcfaaDoor.Wire Go.Proofs.YtmoopdhnnpjcfaaDoor.PCo Go.Proofs.YtmoopdhnnpjcfaaDoor.CoG
set_option linter.unusedVariables false
set_option linter.unusedSimpArgs false
set_option maxRecDepth 100000
def wb (l : List S47) (m : Nat) : Nat → List Int
  | 0 => List.replicate m 0
  | j + 1 => (wb l m j).set (j / 8) (bits .or .u8 (rd (wb l m j) ((j / 8 : Nat) : Int)) (shl .u8 (nm l j % 256) ((j % 8 : Nat) : Int)))
theorem shl_at {x : Int} {r : Nat} (h : r < 8) : shl .u8 x (r : Int) = x * 2 ^ r % 256 := by
  unfold shl
  rw [Int.toNat_natCast, Nat.min_eq_left (show r ≤ IntKind.u8.bits by simp [IntKind.bits]; omega), IntKind.wrap_u8]
theorem wb_len (l : List S47) (m j : Nat) : (wb l m j).length = m := by
  induction j with
  | zero => simp [wb]
  | succ j ih => rw [wb, List.length_set, ih]
set_option maxHeartbeats 8000000 in
theorem writeBools_calls {A : Option Addr} {c : Nat} {l : List S47} (w : World) (hr : Kd.C k47 w A l.length l) (hs : l.length ≤ 1048576) :
    Calls Tryd.prog 116 #[.slice A l.length c] w fun e w' => ∃ v, e = .returned v ∧ Kd.R (Kd.int .u8) 5 w' w.heap.size (fun _ => True) v (wb l ((l.length + 7) / 8) l.length) ∧ Below w.heap.size w w' := by
  have HR := Aside0.mk hr
  obtain ⟨n, hn⟩ : ∃ n, l.length = n := ⟨_, rfl⟩
  have HN := Aside0.mk hn
  have hnb : n ≤ 1048576 := by omega
  rw [hn]
  clear hr hn hs
  obtain ⟨m, hm⟩ : ∃ m, (n + 7) / 8 = m := ⟨_, rfl⟩
  rw [hm]
  have HM := Aside0.mk hm
  have HMI := Aside0.mk (show (((n : Int) + 7) / 8).toNat = m from by omega)
  have hm0 : 0 ≤ ((n : Int) + 7) / 8 := by omega
  have hm1 : (((n : Int) + 7) / 8).toNat ≤ 281474976710656 := by omega
  clear hm
  go_enter Tryd.func116, Tryd.ntmps116
  go_wp2_with ((with_reducible refine gate_dst (N := 10) rfl ?_); refine Kd.R_make (Kd.int .u8) _ 5 rfl (N := 10) rfl 25 _ _ rfl (((n : Int) + 7) / 8) rfl rfl Tryd.underlying25 (.int .u8 0) 1 infoB rfl (by decide) (by omega) 0 (ok := fun _ => True) (okp := fun _ => True) rfl (fun _ hk => hk) trivial (by omega) (by omega) (Below.refl _ _) (Nat.le_refl _) ?_; intro v5 w5 ho5 hb5 hg5 hn5; rw [HMI.out] at ho5; have HO5 := Aside0.mk ho5; have HB5 := Aside0.mk hb5; clear ho5 hb5 hg5 hn5)
  obtain ⟨A5, c5, rfl⟩ := Kd.R_slice HO5.out
  rw [show (List.replicate m (0 : Int)).length = m from by simp]
  have HO5' := Aside0.mk (show Kd.R (Kd.int .u8) 5 w5 w.heap.size (fun _ => True) (.slice A5 m c5) (wb l m 0) from by have h := HO5.out; rw [show (List.replicate m (0 : Int)).length = m from by simp] at h; exact h)
  clear hm0 hm1 HO5
  go_loopw [13] (fun i wr => ∃ j : Nat, j ≤ n ∧ i = .int .i64 (j : Int) ∧ Aside0 (Kd.R (Kd.int .u8) 5 wr w.heap.size (fun _ => True) (.slice A5 m c5) (wb l m j)) ∧ Aside0 (Below w.heap.size w wr)) (fun i _ => n - (intOf i).toNat)
  case atStart => exact ⟨0, by omega, rfl, ⟨HO5'.out⟩, ⟨HB5.out⟩⟩
  case round =>
    obtain ⟨j, hj, rfl, HO, HB⟩ := hrel
    clear HO5' HB5
    by_cases hlt : j < n
    · have u1 : decide ((j : Int) < (n : Int)) = true := decide_eq_true (by omega)
      have u2 : decide (j < n) = true := decide_eq_true hlt
      have HLT := Aside0.mk hlt
      obtain ⟨ad, e, h0, h1⟩ := at_T47 (Kd.C_below HR.out HB.out) (j : Int) (by omega) (by have := HN.out; omega)
      cases e
      rw [Int.toNat_natCast] at h0 h1
      have p1 : (0 ≤ (j : Int)) = True := eq_true (by omega)
      have p2 : ((j : Int) < (n : Int)) = True := eq_true (by omega)
      have hmax : (j : Int) + 1 ≤ 9223372036854775807 := by omega
      have hql : j / 8 < m := by have := HM.out; omega
      have hql2 : j / 8 < (wb l m j).length := by rw [wb_len]; exact hql
      have hmb : m ≤ 1048576 := by have := HM.out; omega
      have HS := Aside0.mk (show wb l m (j + 1) = (wb l m j).set (j / 8) (bits .or .u8 (rd (wb l m j) ((j / 8 : Nat) : Int)) (shl .u8 (nm l j % 256) ((j % 8 : Nat) : Int))) from rfl)
      have HLEN := Aside0.mk (wb_len l m j)
      obtain ⟨x, hx⟩ : ∃ x, nm l j = x := ⟨_, rfl⟩
      rw [show (rd_T47 l (j : Int)).f0 = x from hx] at h0
      rw [hx] at HS
      obtain ⟨s, hse⟩ : ∃ s, (rd_T47 l (j : Int)).f1 = s := ⟨_, rfl⟩
      rw [hse] at h1
      have hml : j % 8 < 8 := Nat.mod_lt _ (by decide)
      have hq : (j : Int) / 8 = ((j / 8 : Nat) : Int) := by omega
      have hm : (j : Int) % 8 = ((j % 8 : Nat) : Int) := by omega
      obtain ⟨go, c9, e9, gb, gl, cl, HG⟩ := Kd.R_form HO.out (by rw [wb_len]; omega)
      injection e9 with ea en ec
      subst ea
      subst ec
      have GB := Aside0.mk gb
      clear en gl HG cl gb hx hse hj
      generalize wb l m j = t at *
      generalize j / 8 = q at *
      generalize j % 8 = r at *
      have HBX := Aside0.mk (heap_alloc_new wr (.cells #[.int .u64 x, .string s] 47))
      have HO2 := Aside0.mk (Kd.R_alloc HO.out (.cells #[.int .u64 x, .string s] 47))
      have HB2 := Aside0.mk (below_alloc HB.out (.cells #[.int .u64 x, .string s] 47))
      go_wp2_with fail
      obtain ⟨W2, hW2⟩ : ∃ W2, wr.alloc (.cells #[.int .u64 x, .string s] 47) = W2 := ⟨_, rfl⟩
      rw [hW2] at HBX HO2 HB2 ⊢
      obtain ⟨hcx, hfx⟩ := Kd.R_celln 0 HO2.out (q : Int) (by omega) (by omega)
      rw [Int.toNat_natCast] at hcx hfx
      have b0 : W2.cell? ⟨wr.heap.size, 0, none⟩ = some (.int .u64 x) := (blk_cell HBX.out 0).trans rfl
      have hq0 : (0 ≤ (q : Int)) = True := eq_true (by omega)
      have hq1 : ((q : Int) < (m : Int)) = True := eq_true (by omega)
      have hr0 : (0 ≤ (r : Int)) = True := eq_true (by omega)
      clear hW2 h0 h1 HO HB
      refine QTail.wp_region_quiet_tail 13 (by kernel_rfl) (by kernel_rfl) ?_
      simp only [List.take_succ_cons, List.take_zero, List.drop_succ_cons, List.drop_zero]
      repeat (go_big_quiet_step (fail))
      refine wpQuiet_nil ?_
      intro _ hw'
      obtain ⟨nq, hw''⟩ := hw'
      subst hw''
      have HOV := Aside0.mk (show bits .or .u8 (rdOf 0 t (q : Int)) (x % 256 * 2 ^ r % 256) = bits .or .u8 (rd t (q : Int)) (shl .u8 (x % 256) (r : Int)) from by rw [shl_at hml]; rfl)
      rw [HOV.out]
      obtain ⟨O, hO⟩ : ∃ O, bits .or .u8 (rd t (q : Int)) (shl .u8 (x % 256) (r : Int)) = O := ⟨_, rfl⟩
      rw [hO] at HS ⊢
      have HPT := Aside0.mk (show Kd.R (Kd.int .u8) 5 ((W2.setCell ⟨go, q, none⟩ (.int .u8 O)).drewN nq) w.heap.size (fun _ => True) (.slice (some ⟨go, 0, none⟩) m c5) (t.set q O) from Kd.R_drewN (Kd.R_putn HO2.out (q : Int) O) nq)
      have HBT := Aside0.mk (show Below w.heap.size w ((W2.setCell ⟨go, q, none⟩ (.int .u8 O)).drewN nq) from pw_below_drewN (below_set HB2.out GB.out) nq)
      clear hO HOV
      go_wp2_with fail
      go_roundw
      case rel => exact ⟨j + 1, HLT.out, by go_num, ⟨by rw [HS.out]; exact HPT.out⟩, ⟨HBT.out⟩⟩
      case measure => have := HLT.out; simp [intOf]; omega
    · have u1 : decide ((j : Int) < (n : Int)) = false := decide_eq_false (by omega)
      have u2 : decide (j < n) = false := decide_eq_false hlt
      obtain rfl : n = j := by omega
      go_wp2
      go_ret
      exact ⟨_, rfl, HO.out, HB.out⟩
end Go.Proofs.YtmoopdhnnpjcfaaDoor.Co
