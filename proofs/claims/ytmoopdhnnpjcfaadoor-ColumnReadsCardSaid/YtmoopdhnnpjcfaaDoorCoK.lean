import Derived.Test.YtmoopdhnnpjcfaaDoorTkD
import Derived.Deep.RegionWith
import Derived.RegionTactic
import Derived.BigRegion
/-! Column: texts that are taken. -/
namespace Go.Proofs.YtmoopdhnnpjcfaaDoor.Co
open Go.RowKit Go.Proofs.YtmoopdhnnpjcfaaDoorW.PrintWords Go.Proofs.YtmoopdhnnpjcfaaDoorW.PrintLast Go.Proofs.YtmoopdhnnpjcfaaDoorW.PrintMore Go.Proofs.YtmoopdhnnpjcfaaDoor.Wire Go.Proofs.YtmoopdhnnpjcfaaDoor.PCo Go.Proofs.YtmoopdhnnpjcfaaDoor.CoG Go.Proofs.YtmoopdhnnpjcfaaDoor.Rd
set_option linter.unusedVariables false
set_option linter.unusedSimpArgs false
set_option maxRecDepth 100000
/-- Bytes that are taken, as a text. -/
theorem bytes_step {w0 W : World} {g : Nat} {A : Option Addr} {c : Nat} {l : List Int} {a : Nat} (h : Rd w0 W g A c l a) (m : Int) (hm : m ≤ 9223372036854775807) (he : be l a m = 0) :
    Calls Tryd.prog 101 #[.pointer (some ⟨g, 0, none⟩), .int .i64 m] W fun e w' => ∃ A2 c2, e = .returned (.slice A2 (bx l a m).length c2) ∧ (Kd.int .u8).C w' A2 (bx l a m).length (bx l a m) ∧ Rd w0 w' g A c l (a + bk l a m) ∧ Kp (fun k => k = g) W w' := by
  obtain ⟨eb, h1, h2, -⟩ := b_ok h.by_ h.le he
  refine (bytes_calls h.at_ h.row h.cap h.le h.by_ h.len m hm _ _ eb (by have := h.len; omega)).mono ?_
  rintro e w' ⟨v, w1, rfl, hv, hb, rfl⟩
  have hk1 : Kp (fun k => k = g) W (w1.setCell ⟨g, 1, none⟩ (.int .i64 ((a + bk l a m : Nat) : Int))) := (Kp.of_below hb _).set_g _ _
  obtain ⟨A2, c2, rfl⟩ := Kd.R_slice hv
  refine ⟨A2, c2, rfl, ?_, h.step hk1 ((h.at_.below hb).set _) h2, hk1⟩
  have hx := (h.at_.below hb)
  have hv2 := Kd.R_types hv hx (by decide)
  exact (Kd.R_reads' (Kd.R_far (p := ⟨g, 1, none⟩) hv2 (fun k z => z.2) _)).2.2
theorem bytes_end {w0 W : World} {g : Nat} {A : Option Addr} {c : Nat} {l : List Int} {a : Nat} (h : Rd w0 W g A c l a) (m : Int) (hm : m ≤ 9223372036854775807) (he : be l a m ≠ 0) :
    Calls Tryd.prog 101 #[.pointer (some ⟨g, 0, none⟩), .int .i64 m] W fun e w' => e = .panicked [ends g (be l a m)] ∧ Rd w0 w' g A c l a ∧ Kp (fun k => k = g) W w' := by
  refine (bytes_ends h.at_ h.row h.cap h.le h.by_ h.len m hm _ _ _ (b_err he) he).mono ?_
  rintro e w' ⟨rfl, hb⟩
  exact ⟨rfl, h.below hb, Kp.of_below hb _⟩
theorem nums_size (p : List Int) : (strOfNums p).size = p.length := by
  show (strOfNums p).data.size = _
  rw [← Array.length_toList, strOfNums_data, List.length_map]
theorem ext0_size {s : ByteArray} {n : Nat} (h : n ≤ s.size) : (s.extract 0 n).size = n := by
  rw [ByteArray.size_extract]; omega
section
variable {P : Program} {ops : Array Oper} {Q : Exit → Act → World → Prop}
/-- A call that ends by a panic. -/
theorem panics_ {oi : Oper} {N : Option Tmp} {a : Act} {w : World} {K : Act → World → Prop} {f : FuncId} {fn : Func} {as_ : Array Operand} {ts : Array TypeId} (hf : P.funcs[f]? = some fn) (hname : (fn.name == "runtime.NumGoroutine") = false) (hb : fn.body.isSome = true) (args : Array Value)
    (hw : Region.wanted oi (yielded ops a.tmps) = true) (hop : oi.op = .call { callee := .value (.func f), args := as_, argTypes := ts }) (hargs : as_.map a.eval = args)
    (h : Calls P f args w fun e w' => ∃ ch, e = .panicked ch ∧ Q (.panic ch) a w') : if Region.wanted oi (yielded ops a.tmps) = true then Oper.wp P oi a w K Q else K (a.put N undef) w := by
  have he := enters_ hf hname hb args w
  have hrun : (execOp a.eval oi).run P w = .ok (.enter f args) w := by
    unfold execOp
    simp [hop, resolve, Deferred.ofValue, invoke, Act.eval, hargs, he]
  rw [if_pos hw]
  unfold Oper.wp
  rw [hrun, Oper.upon_enter]
  refine h.mono fun e w'' hh => ?_
  obtain ⟨ch, rfl, hq⟩ := hh
  exact hq
end
set_option maxHeartbeats 16000000 in
theorem takeTexts_calls {w0 W : World} {g : Nat} {A : Option Addr} {c : Nat} {l : List Int} {a : Nat} (h : Rd w0 W g A c l a) (n : Nat) (hn : n ≤ 1024) (strict : Bool) (hU : UtfW w0) :
    Calls Tryd.prog 110 #[.pointer (some ⟨g, 0, none⟩), .int .i64 (n : Int), .bool strict] W (Took w0 W g A c l (ttx l strict n a e0 [])) := by
  obtain ⟨r, hr⟩ : ∃ r, ttx l strict n a e0 [] = r := ⟨_, rfl⟩
  rw [hr]
  have H := Aside0.mk (Tk.start h)
  have HG := Aside0.mk (Tk.glt h)
  have HR := Aside0.mk hr
  have HUW := Aside0.mk hU
  clear h hr hU
  go_enter Tryd.func110, Tryd.ntmps110
  go_wp2
  go_loopw [7, 8, 12] (fun v la i wr => ∃ (j a2 : Nat) (last : ByteArray) (xs : List S47), j ≤ n ∧ i = .int .i64 (j : Int) ∧ la = .string last ∧ Aside0 (last.size ≤ 256) ∧ Aside0 (xs.length = j) ∧ Aside0 (ttx l strict (n - j) a2 last xs = r) ∧ Aside0 (Tk w0 W wr g A c l a2 v xs) ∧ (∃ B d, v = .slice B j d)) (fun _ _ i _ => n - (intOf i).toNat)
  case atStart => exact ⟨0, a, e0, [], by omega, rfl, rfl, ⟨Nat.zero_le _⟩, ⟨rfl⟩, ⟨HR.out⟩, ⟨H.out⟩, none, 0, rfl⟩
  case round =>
    obtain ⟨j, a2, last, xs, hj, rfl, rfl, HLS, HX, HT, HK, B2, d2, rfl⟩ := hrel
    clear H HR
    by_cases hlt : j < n
    · have u1 : decide ((j : Int) < (n : Int)) = true := decide_eq_true (by omega)
      have u2 : decide (j < n) = true := decide_eq_true hlt
      have HLT := Aside0.mk hlt
      have hmax : (j : Int) + 1 ≤ 9223372036854775807 := by omega
      obtain ⟨m, hm⟩ : ∃ m, n - j = m + 1 := ⟨n - j - 1, by omega⟩
      have HM := Aside0.mk hm
      have HTT := HT.out
      rw [hm, ttx] at HTT
      have hls := HLS.out
      clear hj hlt hm HT
      by_cases he : ge l a2 ≠ 0
      · rw [if_pos he] at HTT
        have HI := Aside0.mk (HK.out.rd.uint_end (last.size : Int) _ _ _ (g_err he) (.inl he))
        rw [if_neg he] at HI
        obtain ⟨E, hE⟩ : ∃ E, ge l a2 = E := ⟨_, rfl⟩
        rw [hE] at HI HTT he
        have HTN := Aside0.mk HTT
        have HNE := Aside0.mk he
        clear HTT hE he
        go_wp2_with fail
        refine HI.out.mono ?_
        rintro e w2 ⟨rfl, hrd, hkp⟩
        have hfin : Took w0 W g A c l r (.panicked [ends g E]) w2 := by rw [← HTN.out]; exact .inr ⟨HNE.out, rfl, hrd, (HK.out.step HG.out hrd hkp).kp⟩
        (try simp only [Exit.inBlock, Exit.then])
        exact ⟨rfl, hfin⟩
      rw [if_neg he] at HTT
      have he0 : ge l a2 = 0 := Decidable.not_not.1 he
      obtain ⟨eg, hx0, hx1, -, -, ha3, -⟩ := g_ok HK.out.rd.by_ HK.out.rd.le he0
      clear he
      by_cases hm3 : (last.size : Int) < gx l a2
      · rw [if_pos hm3] at HTT
        have HI := Aside0.mk (HK.out.rd.uint_end (last.size : Int) _ _ _ eg (.inr hm3))
        rw [if_pos rfl] at HI
        have HTN := Aside0.mk HTT
        clear HTT hm3 eg hx0 hx1 ha3 he0
        go_wp2_with fail
        refine HI.out.mono ?_
        rintro e w2 ⟨rfl, hrd, hkp⟩
        have hfin : Took w0 W g A c l r (.panicked [ends g 3]) w2 := by rw [← HTN.out]; exact .inr ⟨by show (3 : Int) ≠ 0; decide, rfl, hrd, (HK.out.step HG.out hrd hkp).kp⟩
        (try simp only [Exit.inBlock, Exit.then])
        exact ⟨rfl, hfin⟩
      rw [if_neg hm3] at HTT
      have HI := Aside0.mk (HK.out.rd.uint_step (last.size : Int) _ _ eg (by omega))
      obtain ⟨X, hX⟩ := Int.eq_ofNat_of_zero_le hx0
      have hXs : X ≤ last.size := by omega
      have HSH := Aside0.mk (fun t W => shared_calls last t (by omega) W)
      have htte : tt l a2 last = last.extract 0 X ++ strOfNums (bx l (a2 + gk l a2) (256 - (X : Int))) := by unfold tt; rw [hX, Int.toNat_natCast]
      have htae : ta l a2 = a2 + gk l a2 + bk l (a2 + gk l a2) (256 - (X : Int)) := by unfold ta; rw [hX]
      rw [htte, htae] at HTT
      rw [hX] at HI HTT
      rw [Int.toNat_natCast] at HTT
      obtain ⟨a3, ha3e⟩ : ∃ a3, a2 + gk l a2 = a3 := ⟨_, rfl⟩
      rw [ha3e] at HI HTT ha3
      clear htte htae hX ha3e eg hx0 hx1 he0 hm3
      have HTN := Aside0.mk HTT
      have HA3 := Aside0.mk ha3
      clear HTT ha3
      go_wp2_with fail
      refine HI.out.mono ?_
      rintro e w2 ⟨rfl, hrd, hkp⟩
      have HK2 := Aside0.mk (HK.out.step HG.out hrd hkp)
      have HRD := Aside0.mk (fun (m : Nat) => (show Rd w0 (w2.drewN m) g A c l a3 from hrd.keep ((Kp.refl (fun _ => False) w2).drewN m) (fun _ z => z.elim)))
      clear hrd hkp HI HK
      by_cases hbe : be l a3 (256 - (X : Int)) ≠ 0
      · have HTT := HTN.out
        rw [if_pos hbe] at HTT
        have HBE := Aside0.mk (fun (m : Nat) => bytes_end (HRD.out m) (256 - (X : Int)) (by omega) hbe)
        obtain ⟨E, hE⟩ : ∃ E, be l a3 (256 - (X : Int)) = E := ⟨_, rfl⟩
        rw [hE] at HBE HTT hbe
        have HTM := Aside0.mk HTT
        have HNE := Aside0.mk hbe
        clear HTT hE hbe HTN
        go_wp2_with fail
        -- REGION E
        refine start_ (n := 10) (S := fun _ => True) (ds := []) #[false, false, false, false, false, false, false, false, false, false] (by kernel_rfl) rfl rfl trivial (fun _ => ?_)
        refine pure_ (i := 0) (N := some 20) (v := ?_) (a' := ?_) #[true, false, false, false, false, false, false, false, false, false] rfl rfl (any_of rfl (by kernel_rfl)) (fun _ _ _ h => h) (Or.inl ⟨by rfl, ?_⟩) ?_ ?_
        rotate_left
        · intro w'
          go_simp
          with_reducible rfl
        rotate_left
        · simp only [Act.put, List.setIfInBounds_toArray, List.set_cons_zero, List.set_cons_succ, i64_w, i32_w]
          rfl
        refine pure_ (i := 1) (N := some 21) (v := ?_) (a' := ?_) #[true, true, false, false, false, false, false, false, false, false] rfl rfl (any_of rfl (by kernel_rfl)) (fun _ _ _ h => h) (Or.inl ⟨by rfl, ?_⟩) ?_ ?_
        rotate_left
        · intro w'
          go_simp
          with_reducible rfl
        rotate_left
        · simp only [Act.put, List.setIfInBounds_toArray, List.set_cons_zero, List.set_cons_succ, i64_w, i32_w]
          rfl
        refine pure_ (i := 2) (N := some 22) (v := ?_) (a' := ?_) #[true, true, true, false, false, false, false, false, false, false] rfl rfl (any_of rfl (by kernel_rfl)) (fun _ _ _ h => h) (Or.inl ⟨by rfl, ?_⟩) ?_ ?_
        rotate_left
        · intro w'
          go_simp
          with_reducible rfl
        rotate_left
        · simp only [Act.put, List.setIfInBounds_toArray, List.set_cons_zero, List.set_cons_succ, i64_w, i32_w]
          rfl
        refine pure_ (i := 3) (N := some 23) (v := ?_) (a' := ?_) #[true, true, true, true, false, false, false, false, false, false] rfl rfl (any_of rfl (by kernel_rfl)) (fun _ _ _ h => h) (Or.inl ⟨by rfl, ?_⟩) ?_ ?_
        rotate_left
        · intro w'
          go_simp
          with_reducible rfl
        rotate_left
        · simp only [Act.put, List.setIfInBounds_toArray, List.set_cons_zero, List.set_cons_succ, i64_w, i32_w]
          rfl
        refine pure_ (i := 4) (N := some 24) (v := ?_) (a' := ?_) #[true, true, true, true, true, false, false, false, false, false] rfl rfl (any_of rfl (by kernel_rfl)) (fun _ _ _ h => h) (Or.inl ⟨by rfl, ?_⟩) ?_ ?_
        rotate_left
        · intro w'
          go_simp
          with_reducible rfl
        rotate_left
        · simp only [Act.put, List.setIfInBounds_toArray, List.set_cons_zero, List.set_cons_succ, i64_w, i32_w]
          rfl
        refine pure_ (i := 5) (N := some 25) (v := ?_) (a' := ?_) #[true, true, true, true, true, true, false, false, false, false] rfl rfl (any_of rfl (by kernel_rfl)) (fun _ _ _ h => h) (Or.inl ⟨by rfl, ?_⟩) ?_ ?_
        rotate_left
        · intro w'
          go_simp
          with_reducible rfl
        rotate_left
        · simp only [Act.put, List.setIfInBounds_toArray, List.set_cons_zero, List.set_cons_succ, i64_w, i32_w]
          rfl
        refine one_ (i := 6) (N := some 26) #[true, true, true, true, true, true, true, false, false, false] rfl rfl (one_of rfl (by kernel_rfl)) (by decide) (fun K hK => ?_)
        refine panics_ Tryd.func101 (by kernel_rfl) rfl #[.pointer (some ⟨g, 0, none⟩), .int .i64 (wrap64 (256 - (X : Int)))] (by rfl) rfl (by (try simp only [List.map_toArray, List.map_cons, List.map_nil]); rfl) ?_
        rw [w64 (n := 256 - (X : Int)) (by omega) (by omega)]
        refine (HBE.out 1).mono ?_
        rintro e w3 ⟨rfl, hrd, hkp⟩
        refine ⟨_, rfl, ?_⟩
        have hfin : Took w0 W g A c l r (.panicked [ends g E]) w3 := by rw [← HTM.out]; exact .inr ⟨HNE.out, rfl, hrd, ((HK2.out.below (pw_below_drewN (Below.refl _ _) 1)).step HG.out hrd hkp).kp⟩
        (try simp only [Exit.inBlock, Exit.then])
        exact ⟨rfl, hfin⟩
      have hb0 : be l a3 (256 - (X : Int)) = 0 := Decidable.not_not.1 hbe
      have HTT := HTN.out
      rw [if_neg hbe] at HTT
      have HBS := Aside0.mk (bytes_step (HRD.out 1) (256 - (X : Int)) (by omega) hb0)
      obtain ⟨-, -, hbk2, hbl, -, hbm, hbb, -⟩ := b_ok (HRD.out 0).by_ (HRD.out 0).le hb0
      obtain ⟨p, hp⟩ : ∃ p, bx l a3 (256 - (X : Int)) = p := ⟨_, rfl⟩
      obtain ⟨a4, ha4⟩ : ∃ a4, a3 + bk l a3 (256 - (X : Int)) = a4 := ⟨_, rfl⟩
      rw [hp, ha4] at HTT HBS
      have hpl : p.length + X ≤ 256 := by rw [← hp, hbl]; omega
      have HBB := Aside0.mk (hp ▸ hbb)
      clear hb0 hbe hbk2 hbl hbm hbb HTN ha4 hp HRD
      have HTM := Aside0.mk HTT
      clear HTT
      go_wp2_with fail
      refine start_ (n := 10) (S := fun _ => True) (ds := []) #[false, false, false, false, false, false, false, false, false, false] (by kernel_rfl) rfl rfl trivial (fun _ => ?_)
      refine pure_ (i := 0) (N := some 20) (v := ?_) (a' := ?_) #[true, false, false, false, false, false, false, false, false, false] rfl rfl (any_of rfl (by kernel_rfl)) (fun _ _ _ h => h) (Or.inl ⟨by rfl, ?_⟩) ?_ ?_
      rotate_left
      · intro w'
        go_simp
        with_reducible rfl
      rotate_left
      · simp only [Act.put, List.setIfInBounds_toArray, List.set_cons_zero, List.set_cons_succ, i64_w, i32_w]
        rfl
      refine pure_ (i := 1) (N := some 21) (v := ?_) (a' := ?_) #[true, true, false, false, false, false, false, false, false, false] rfl rfl (any_of rfl (by kernel_rfl)) (fun _ _ _ h => h) (Or.inl ⟨by rfl, ?_⟩) ?_ ?_
      rotate_left
      · intro w'
        go_simp
        with_reducible rfl
      rotate_left
      · simp only [Act.put, List.setIfInBounds_toArray, List.set_cons_zero, List.set_cons_succ, i64_w, i32_w]
        rfl
      refine pure_ (i := 2) (N := some 22) (v := ?_) (a' := ?_) #[true, true, true, false, false, false, false, false, false, false] rfl rfl (any_of rfl (by kernel_rfl)) (fun _ _ _ h => h) (Or.inl ⟨by rfl, ?_⟩) ?_ ?_
      rotate_left
      · intro w'
        go_simp
        with_reducible rfl
      rotate_left
      · simp only [Act.put, List.setIfInBounds_toArray, List.set_cons_zero, List.set_cons_succ, i64_w, i32_w]
        rfl
      refine pure_ (i := 3) (N := some 23) (v := ?_) (a' := ?_) #[true, true, true, true, false, false, false, false, false, false] rfl rfl (any_of rfl (by kernel_rfl)) (fun _ _ _ h => h) (Or.inl ⟨by rfl, ?_⟩) ?_ ?_
      rotate_left
      · intro w'
        go_simp
        with_reducible rfl
      rotate_left
      · simp only [Act.put, List.setIfInBounds_toArray, List.set_cons_zero, List.set_cons_succ, i64_w, i32_w]
        rfl
      refine pure_ (i := 4) (N := some 24) (v := ?_) (a' := ?_) #[true, true, true, true, true, false, false, false, false, false] rfl rfl (any_of rfl (by kernel_rfl)) (fun _ _ _ h => h) (Or.inl ⟨by rfl, ?_⟩) ?_ ?_
      rotate_left
      · intro w'
        go_simp
        with_reducible rfl
      rotate_left
      · simp only [Act.put, List.setIfInBounds_toArray, List.set_cons_zero, List.set_cons_succ, i64_w, i32_w]
        rfl
      refine pure_ (i := 5) (N := some 25) (v := ?_) (a' := ?_) #[true, true, true, true, true, true, false, false, false, false] rfl rfl (any_of rfl (by kernel_rfl)) (fun _ _ _ h => h) (Or.inl ⟨by rfl, ?_⟩) ?_ ?_
      rotate_left
      · intro w'
        go_simp
        with_reducible rfl
      rotate_left
      · simp only [Act.put, List.setIfInBounds_toArray, List.set_cons_zero, List.set_cons_succ, i64_w, i32_w]
        rfl
      refine one_ (i := 6) (N := some 26) #[true, true, true, true, true, true, true, false, false, false] rfl rfl (one_of rfl (by kernel_rfl)) (by decide) (fun K hK => ?_)
      refine goes_ Tryd.func101 (by kernel_rfl) rfl #[.pointer (some ⟨g, 0, none⟩), .int .i64 (wrap64 (256 - (X : Int)))] (by rfl) rfl rfl (by (try simp only [List.map_toArray, List.map_cons, List.map_nil]); rfl) ?_
      rw [w64 (n := 256 - (X : Int)) (by omega) (by omega)]
      refine HBS.out.mono ?_
      rintro e w3 ⟨A3, c3, rfl, hC, hrd, hkp⟩
      refine ⟨_, rfl, ?_⟩
      have HK3 := Aside0.mk ((HK2.out.below (pw_below_drewN (Below.refl _ _) 1)).step HG.out hrd hkp)
      have hk3 := Kd.C_string (P := Tryd.prog) (A := A3) (c := c3) Tryd.underlying25 Tryd.underlying5 Tryd.underlying9 hC
      clear hrd hkp hC HK2 HBS
      refine hK.out _ _ trivial (fun _ => ?_)
      clear hK K
      refine norm_ (a' := ?_) ?_ ?_
      rotate_left
      · show Act.put _ (some 26) _ = _
        simp only [Act.put, List.setIfInBounds_toArray, List.set_cons_zero, List.set_cons_succ, i64_w, i32_w]
        rfl
      refine one_ (i := 7) (N := some 27) #[true, true, true, true, true, true, true, true, false, false] rfl rfl (one_of rfl (by kernel_rfl)) (by decide) (fun K hK => ?_)
      refine value_ (v := .string (strOfNums p)) (w1 := w3) (by rfl) rfl ?_ ?_
      · go_simp
      refine hK.out _ _ trivial (fun _ => ?_)
      clear hK K hk3
      refine norm_ (a' := ?_) ?_ ?_
      rotate_left
      · show Act.put _ (some 27) _ = _
        simp only [Act.put, List.setIfInBounds_toArray, List.set_cons_zero, List.set_cons_succ, i64_w, i32_w]
        rfl
      have hsz : (last.extract 0 X).size + (strOfNums p).size = X + p.length := by rw [ext0_size hXs, nums_size]
      refine pure_ (i := 8) (N := some 28) (v := ?_) (a' := ?_) #[true, true, true, true, true, true, true, true, true, false] rfl rfl (any_of rfl (by kernel_rfl)) (fun _ _ _ h => h) (Or.inl ⟨by rfl, ?_⟩) ?_ ?_
      rotate_left
      · intro w'
        go_simp
        rw [if_neg (show ¬ 9223372036854775807 < X + (strOfNums p).size by rw [nums_size]; omega)]
      rotate_left
      · simp only [Act.put, List.setIfInBounds_toArray, List.set_cons_zero, List.set_cons_succ, i64_w, i32_w]
        rfl
      refine pure_ (i := 9) (N := some 10) (v := ?_) (a' := ?_) #[true, true, true, true, true, true, true, true, true, true] rfl rfl (any_of rfl (by kernel_rfl)) (fun _ _ _ h => h) (Or.inl ⟨by rfl, ?_⟩) ?_ ?_
      rotate_left
      · intro w'
        go_simp
        with_reducible rfl
      rotate_left
      · simp only [Act.put, List.setIfInBounds_toArray, List.set_cons_zero, List.set_cons_succ, i64_w, i32_w]
        rfl
      refine done_ (done_of rfl (by kernel_rfl)) ?_
      have hTs : (last.extract 0 X ++ strOfNums p).size ≤ 256 := by rw [ByteArray.size_append]; omega
      obtain ⟨T, hT⟩ : ∃ T, last.extract 0 X ++ strOfNums p = T := ⟨_, rfl⟩
      rw [hT] at HTM hTs ⊢
      have HTS := Aside0.mk hTs
      have HVC := Aside0.mk (fun W hW => valid_calls T (by omega) W hW)
      have HSC := Aside0.mk (HSH.out T)
      obtain ⟨Z, hZ⟩ : ∃ Z, shared last T = Z := ⟨_, rfl⟩
      rw [hZ] at HSC HTM
      clear hsz hT hTs HSH hZ hpl HBB hls
      go_wp2_with fail
      refine (HSC.out _).mono ?_
      rintro e w4 ⟨rfl, b4⟩
      have HK4 := Aside0.mk (HK3.out.below b4)
      clear b4 HK3 HSC
      by_cases hzx : Z ≠ X
      · have HTT := HTM.out
        rw [if_pos hzx] at HTT
        have HTN := Aside0.mk HTT
        have z1 : ((Z : Int) == (X : Int)) = false := beq_eq_false_iff_ne.mpr (by omega)
        have HMU := Aside0.mk (HK4.out.rd.must_end 6 (by decide))
        clear HTT hzx HTM
        go_wp2_with fail
        refine HMU.out.mono ?_
        rintro e w5 ⟨rfl, hrd, hkp⟩
        have hfin : Took w0 W g A c l r (.panicked [ends g 6]) w5 := by rw [← HTN.out]; exact .inr ⟨by show (6 : Int) ≠ 0; decide, rfl, hrd, (HK4.out.step HG.out hrd hkp).kp⟩
        (try simp only [Exit.inBlock, Exit.then])
        exact ⟨rfl, hfin⟩
      have HTT := HTM.out
      rw [if_neg hzx] at HTT
      have z1 : ((Z : Int) == (X : Int)) = true := beq_iff_eq.mpr (by omega)
      have HMU := Aside0.mk (HK4.out.rd.must_step true 6 (.inl rfl))
      have HTN := Aside0.mk HTT
      clear HTT hzx HTM
      go_wp2_with fail
      refine HMU.out.mono ?_
      rintro e w5 ⟨rfl, hrd, hkp⟩
      have HK5 := Aside0.mk (HK4.out.step HG.out hrd hkp)
      clear hrd hkp HK4 HMU z1
      cases strict with
      | false =>
        have HTT := HTN.out
        rw [if_neg (by rintro ⟨h, -⟩; cases h)] at HTT
        have HTM := Aside0.mk HTT
        have HMU := Aside0.mk (HK5.out.rd.must_step true 11 (.inl rfl))
        clear HTT HTN HVC
        go_wp2_with fail
        refine HMU.out.mono ?_
        rintro e w7 ⟨rfl, hrd, hkp⟩
        have HK7 := Aside0.mk (HK5.out.step HG.out hrd hkp)
        clear hrd hkp HK5 HMU
        have HHG := Aside0.mk (show ∀ k, w7.heap.size ≤ k → W.heap.size ≤ k from fun k hk => by have := HK7.out.kp.size; omega)
        have HOB := Aside0.mk (show w0.heap.size ≤ w7.heap.size from by have := HK7.out.rd.base.size; omega)
        go_wp2_with (at_builtin; refine Kd.R_append k47 (w0 := w0) w0.heap.size rfl (.tmp 44) (.tmp 47) 22 47 (.agg #[.int .u64 0, .string ⟨#[]⟩]) 24 rfl Tryd.underlying22 infoC rfl (by decide) (by decide) _ xs ⟨0, T⟩ [.int .u64 0, .string T] (fun k => W.heap.size ≤ k) (fun _ => False) rfl rfl (k47_mkM _ _ _ _) (fun _ h => h.elim) HHG.out HK7.out.row HK7.out.rd.base HOB.out ?aL ?_; (case aL => rw [HX.out]; have := HLT.out; omega); intro v1 w8 hr1 hb1 hg1 hat1; have HK8 := Aside0.mk (HK7.out.grown HG.out hr1 hg1); obtain ⟨B3, d3, hv1⟩ := Kd.R_slice hr1; rw [List.length_append, HX.out, show j + [(⟨0, T⟩ : S47)].length = j + 1 from by simp] at hv1; subst hv1; clear hr1 hb1 hg1 hat1)
        go_roundw
        case rel => exact ⟨j + 1, a4, T, xs ++ [⟨0, T⟩], HLT.out, by go_num, rfl, ⟨HTS.out⟩, ⟨by rw [List.length_append, HX.out]; simp⟩, ⟨by rw [show n - (j + 1) = m by have := HM.out; omega]; exact HTM.out⟩, ⟨HK8.out⟩, B3, d3, rfl⟩
        case measure => have := HLT.out; simp [intOf]; omega
      | true =>
        go_wp2_with fail
        refine (HVC.out _ (HUW.out.below HK5.out.rd.base)).mono ?_
        rintro e w6 ⟨rfl, b6⟩
        have HK6 := Aside0.mk (HK5.out.below b6)
        clear b6 HK5
        have HTT := HTN.out
        cases hv : Lib.validD T.data.toList with
        | false =>
          rw [hv, if_pos (by simp)] at HTT
          have HTM := Aside0.mk HTT
          have HMU := Aside0.mk (HK6.out.rd.must_end 11 (by decide))
          clear HTT HTN hv HVC
          go_wp2_with fail
          refine HMU.out.mono ?_
          rintro e w7 ⟨rfl, hrd, hkp⟩
          have hfin : Took w0 W g A c l r (.panicked [ends g 11]) w7 := by rw [← HTM.out]; exact .inr ⟨by show (11 : Int) ≠ 0; decide, rfl, hrd, (HK6.out.step HG.out hrd hkp).kp⟩
          (try simp only [Exit.inBlock, Exit.then])
          exact ⟨rfl, hfin⟩
        | true =>
          rw [hv, if_neg (by simp)] at HTT
          have HTM := Aside0.mk HTT
          have HMU := Aside0.mk (HK6.out.rd.must_step true 11 (.inl rfl))
          clear HTT HTN hv HVC
          go_wp2_with fail
          refine HMU.out.mono ?_
          rintro e w7 ⟨rfl, hrd, hkp⟩
          have HK7 := Aside0.mk (HK6.out.step HG.out hrd hkp)
          clear hrd hkp HK6 HMU
          have HHG := Aside0.mk (show ∀ k, w7.heap.size ≤ k → W.heap.size ≤ k from fun k hk => by have := HK7.out.kp.size; omega)
          have HOB := Aside0.mk (show w0.heap.size ≤ w7.heap.size from by have := HK7.out.rd.base.size; omega)
          go_wp2_with (at_builtin; refine Kd.R_append k47 (w0 := w0) w0.heap.size rfl (.tmp 44) (.tmp 47) 22 47 (.agg #[.int .u64 0, .string ⟨#[]⟩]) 24 rfl Tryd.underlying22 infoC rfl (by decide) (by decide) _ xs ⟨0, T⟩ [.int .u64 0, .string T] (fun k => W.heap.size ≤ k) (fun _ => False) rfl rfl (k47_mkM _ _ _ _) (fun _ h => h.elim) HHG.out HK7.out.row HK7.out.rd.base HOB.out ?aL ?_; (case aL => rw [HX.out]; have := HLT.out; omega); intro v1 w8 hr1 hb1 hg1 hat1; have HK8 := Aside0.mk (HK7.out.grown HG.out hr1 hg1); obtain ⟨B3, d3, hv1⟩ := Kd.R_slice hr1; rw [List.length_append, HX.out, show j + [(⟨0, T⟩ : S47)].length = j + 1 from by simp] at hv1; subst hv1; clear hr1 hb1 hg1 hat1)
          go_roundw
          case rel => exact ⟨j + 1, a4, T, xs ++ [⟨0, T⟩], HLT.out, by go_num, rfl, ⟨HTS.out⟩, ⟨by rw [List.length_append, HX.out]; simp⟩, ⟨by rw [show n - (j + 1) = m by have := HM.out; omega]; exact HTM.out⟩, ⟨HK8.out⟩, B3, d3, rfl⟩
          case measure => have := HLT.out; simp [intOf]; omega
    · have u1 : decide ((j : Int) < (n : Int)) = false := decide_eq_false (by omega)
      have u2 : decide (j < n) = false := decide_eq_false hlt
      obtain rfl : j = n := by omega
      have hres : r = (xs, a2, 0) := by
        have := HT.out
        rw [Nat.sub_self, ttx] at this
        exact this.symm
      subst hres
      clear hlt hj
      go_wp2
      go_ret
      exact .inl ⟨rfl, _, rfl, HK.out⟩
end Go.Proofs.YtmoopdhnnpjcfaaDoor.Co
