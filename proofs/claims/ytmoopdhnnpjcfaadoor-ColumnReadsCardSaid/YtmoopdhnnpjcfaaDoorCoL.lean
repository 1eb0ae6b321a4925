import Derived.Test.YtmoopdhnnpjcfaaDoorCoJ
import Derived.Test.YtmoopdhnnpjcfaaDoorCoK
/-! Column: Take. -/
namespace Go.Proofs.YtmoopdhnnpjcfaaDoor.Co
open Go.RowKit Go.Proofs.YtmoopdhnnpjcfaaDoorW.PrintWords Go.Proofs.YtmoopdhnnpjcfaaDoorW.PrintLast Go.Proofs.YtmoopdhnnpjcfaaDoorW.PrintMore Go.Proofs.YtmoopdhnnpjcfaaDoor.Wire Go.Proofs.YtmoopdhnnpjcfaaDoor.PCo Go.Proofs.YtmoopdhnnpjcfaaDoor.CoG Go.Proofs.YtmoopdhnnpjcfaaDoor.Rd
set_option linter.unusedVariables false
set_option linter.unusedSimpArgs false
set_option maxRecDepth 100000
set_option maxHeartbeats 4000000 in
theorem kinds_1 {w0 W : World} {g : Nat} {A : Option Addr} {c : Nat} {l : List Int} {a : Nat} (h : Rd w0 W g A c l a) (n : Nat) (hn : n ≤ 1024) (hU : UtfW w0) :
    Calls Tryd.prog 109 #[.pointer (some ⟨g, 0, none⟩), .int .i64 (n : Int)] W (Took w0 W g A c l (ttx l false n a e0 [])) := by
  have HC := Aside0.mk (takeTexts_calls h n hn false hU)
  obtain ⟨r, hr⟩ : ∃ r, ttx l false n a e0 [] = r := ⟨_, rfl⟩
  rw [hr] at HC ⊢
  clear h hr hU
  go_enter Tryd.func109, Tryd.ntmps109
  go_wp2_with fail
  refine HC.out.mono ?_
  rintro e w2 (⟨h0, v, rfl, ht⟩ | ⟨h0, rfl, hrd, hkp⟩)
  · have HT := Aside0.mk ht
    clear ht
    go_wp2
    go_ret
    exact .inl ⟨h0, v, rfl, HT.out⟩
  · have hfin : Took w0 W g A c l r (.panicked [ends g r.2.2]) w2 := .inr ⟨h0, rfl, hrd, hkp⟩
    (try simp only [Exit.inBlock, Exit.then])
    exact ⟨rfl, hfin⟩
set_option maxHeartbeats 4000000 in
theorem kinds_2 {w0 W : World} {g : Nat} {A : Option Addr} {c : Nat} {l : List Int} {a : Nat} (h : Rd w0 W g A c l a) (n : Nat) (hn : n ≤ 1024) (hU : UtfW w0) :
    Calls Tryd.prog 111 #[.pointer (some ⟨g, 0, none⟩), .int .i64 (n : Int)] W (Took w0 W g A c l (ttx l true n a e0 [])) := by
  have HC := Aside0.mk (takeTexts_calls h n hn true hU)
  obtain ⟨r, hr⟩ : ∃ r, ttx l true n a e0 [] = r := ⟨_, rfl⟩
  rw [hr] at HC ⊢
  clear h hr hU
  go_enter Tryd.func111, Tryd.ntmps111
  go_wp2_with fail
  refine HC.out.mono ?_
  rintro e w2 (⟨h0, v, rfl, ht⟩ | ⟨h0, rfl, hrd, hkp⟩)
  · have HT := Aside0.mk ht
    clear ht
    go_wp2
    go_ret
    exact .inl ⟨h0, v, rfl, HT.out⟩
  · have hfin : Took w0 W g A c l r (.panicked [ends g r.2.2]) w2 := .inr ⟨h0, rfl, hrd, hkp⟩
    (try simp only [Exit.inBlock, Exit.then])
    exact ⟨rfl, hfin⟩
set_option maxHeartbeats 4000000 in
theorem take_0 {w0 W : World} {g : Nat} {A : Option Addr} {c : Nat} {l : List Int} {a : Nat} (h : Rd w0 W g A c l a) (n : Nat) (hn : n ≤ 1024) {r : List S47 × Nat × Int}
    (hT : ∀ W1, Rd w0 W1 g A c l a → Calls Tryd.prog 115 #[.pointer (some ⟨g, 0, none⟩), .int .i64 (n : Int)] W1 (Took w0 W1 g A c l r)) :
    Calls Tryd.prog 29 #[.pointer (some ⟨g, 0, none⟩), .int .i64 0, .int .i64 (n : Int)] W (Took w0 W g A c l r) := by
  have H := Aside0.mk h
  have HT := Aside0.mk hT
  have t1 : decide ((n : Int) ≥ 0) = true := decide_eq_true (by omega)
  have t2 : decide ((0 : Int) ≤ (n : Int)) = true := decide_eq_true (by omega)
  have t3 : decide ((n : Int) ≤ 1024) = true := decide_eq_true (by omega)
  have t4 : decide (n ≤ 1024) = true := decide_eq_true hn
  clear h hT
  go_enter Tryd.func29, Tryd.ntmps29
  go_wp2_with fail
  refine (kindly_calls 0 _).mono ?_
  rintro e w1 ⟨rfl, b1⟩
  have H1 := Aside0.mk (H.out.below b1)
  have K1 := Aside0.mk (Kp.of_below b1 (fun k => k = g))
  rw [show decide ((0 : Int) ≤ 0 ∧ (0 : Int) ≤ 5) = true from rfl]
  have HM := Aside0.mk (H1.out.must_step true 10 (.inl rfl))
  clear b1
  go_wp2_with fail
  refine HM.out.mono ?_
  rintro e w2 ⟨rfl, hrd, hkp⟩
  have H2 := Aside0.mk hrd
  have K2 := Aside0.mk (K1.out.trans hkp)
  have HM2 := Aside0.mk (hrd.must_step true 3 (.inl rfl))
  clear hrd hkp HM H1 K1
  go_wp2_with fail
  refine HM2.out.mono ?_
  rintro e w3 ⟨rfl, hrd, hkp⟩
  have H3 := Aside0.mk hrd
  have K3 := Aside0.mk (K2.out.trans hkp)
  clear hrd hkp HM2 H2 K2
  go_wp2_with fail
  refine (kinds_calls _).mono ?_
  rintro e w4 ⟨rfl, b4⟩
  have H4 := Aside0.mk (H3.out.below b4)
  have K4 := Aside0.mk (K3.out.below b4)
  have HC := Aside0.mk (HT.out w4 H4.out)
  clear b4 H3 K3
  go_wp2_with fail
  rw [kinds_at0]
  go_wp2_with fail
  rw [kinds_field1]
  unfold fnv
  go_wp2_with fail
  refine HC.out.mono ?_
  rintro e w5 h5
  have h6 := h5.lift K4.out
  rcases h6 with ⟨h0, v, rfl, ht⟩ | ⟨h0, rfl, hrd, hkp⟩
  · clear h5
    go_wp2
    go_ret
    exact .inl ⟨h0, v, rfl, ht⟩
  · have hfin : Took w0 W g A c l r (.panicked [ends g r.2.2]) w5 := .inr ⟨h0, rfl, hrd, hkp⟩
    (try simp only [Exit.inBlock, Exit.then])
    exact ⟨rfl, hfin⟩
set_option maxHeartbeats 4000000 in
theorem take_1 {w0 W : World} {g : Nat} {A : Option Addr} {c : Nat} {l : List Int} {a : Nat} (h : Rd w0 W g A c l a) (n : Nat) (hn : n ≤ 1024) {r : List S47 × Nat × Int}
    (hT : ∀ W1, Rd w0 W1 g A c l a → Calls Tryd.prog 113 #[.pointer (some ⟨g, 0, none⟩), .int .i64 (n : Int)] W1 (Took w0 W1 g A c l r)) :
    Calls Tryd.prog 29 #[.pointer (some ⟨g, 0, none⟩), .int .i64 1, .int .i64 (n : Int)] W (Took w0 W g A c l r) := by
  have H := Aside0.mk h
  have HT := Aside0.mk hT
  have t1 : decide ((n : Int) ≥ 0) = true := decide_eq_true (by omega)
  have t2 : decide ((0 : Int) ≤ (n : Int)) = true := decide_eq_true (by omega)
  have t3 : decide ((n : Int) ≤ 1024) = true := decide_eq_true (by omega)
  have t4 : decide (n ≤ 1024) = true := decide_eq_true hn
  clear h hT
  go_enter Tryd.func29, Tryd.ntmps29
  go_wp2_with fail
  refine (kindly_calls 1 _).mono ?_
  rintro e w1 ⟨rfl, b1⟩
  have H1 := Aside0.mk (H.out.below b1)
  have K1 := Aside0.mk (Kp.of_below b1 (fun k => k = g))
  rw [show decide ((0 : Int) ≤ 1 ∧ (1 : Int) ≤ 5) = true from rfl]
  have HM := Aside0.mk (H1.out.must_step true 10 (.inl rfl))
  clear b1
  go_wp2_with fail
  refine HM.out.mono ?_
  rintro e w2 ⟨rfl, hrd, hkp⟩
  have H2 := Aside0.mk hrd
  have K2 := Aside0.mk (K1.out.trans hkp)
  have HM2 := Aside0.mk (hrd.must_step true 3 (.inl rfl))
  clear hrd hkp HM H1 K1
  go_wp2_with fail
  refine HM2.out.mono ?_
  rintro e w3 ⟨rfl, hrd, hkp⟩
  have H3 := Aside0.mk hrd
  have K3 := Aside0.mk (K2.out.trans hkp)
  clear hrd hkp HM2 H2 K2
  go_wp2_with fail
  refine (kinds_calls _).mono ?_
  rintro e w4 ⟨rfl, b4⟩
  have H4 := Aside0.mk (H3.out.below b4)
  have K4 := Aside0.mk (K3.out.below b4)
  have HC := Aside0.mk (HT.out w4 H4.out)
  clear b4 H3 K3
  go_wp2_with fail
  rw [kinds_at1]
  go_wp2_with fail
  rw [kinds_field1]
  unfold fnv
  go_wp2_with fail
  refine HC.out.mono ?_
  rintro e w5 h5
  have h6 := h5.lift K4.out
  rcases h6 with ⟨h0, v, rfl, ht⟩ | ⟨h0, rfl, hrd, hkp⟩
  · clear h5
    go_wp2
    go_ret
    exact .inl ⟨h0, v, rfl, ht⟩
  · have hfin : Took w0 W g A c l r (.panicked [ends g r.2.2]) w5 := .inr ⟨h0, rfl, hrd, hkp⟩
    (try simp only [Exit.inBlock, Exit.then])
    exact ⟨rfl, hfin⟩
set_option maxHeartbeats 4000000 in
theorem take_3 {w0 W : World} {g : Nat} {A : Option Addr} {c : Nat} {l : List Int} {a : Nat} (h : Rd w0 W g A c l a) (n : Nat) (hn : n ≤ 1024) {r : List S47 × Nat × Int}
    (hT : ∀ W1, Rd w0 W1 g A c l a → Calls Tryd.prog 109 #[.pointer (some ⟨g, 0, none⟩), .int .i64 (n : Int)] W1 (Took w0 W1 g A c l r)) :
    Calls Tryd.prog 29 #[.pointer (some ⟨g, 0, none⟩), .int .i64 3, .int .i64 (n : Int)] W (Took w0 W g A c l r) := by
  have H := Aside0.mk h
  have HT := Aside0.mk hT
  have t1 : decide ((n : Int) ≥ 0) = true := decide_eq_true (by omega)
  have t2 : decide ((0 : Int) ≤ (n : Int)) = true := decide_eq_true (by omega)
  have t3 : decide ((n : Int) ≤ 1024) = true := decide_eq_true (by omega)
  have t4 : decide (n ≤ 1024) = true := decide_eq_true hn
  clear h hT
  go_enter Tryd.func29, Tryd.ntmps29
  go_wp2_with fail
  refine (kindly_calls 3 _).mono ?_
  rintro e w1 ⟨rfl, b1⟩
  have H1 := Aside0.mk (H.out.below b1)
  have K1 := Aside0.mk (Kp.of_below b1 (fun k => k = g))
  rw [show decide ((0 : Int) ≤ 3 ∧ (3 : Int) ≤ 5) = true from rfl]
  have HM := Aside0.mk (H1.out.must_step true 10 (.inl rfl))
  clear b1
  go_wp2_with fail
  refine HM.out.mono ?_
  rintro e w2 ⟨rfl, hrd, hkp⟩
  have H2 := Aside0.mk hrd
  have K2 := Aside0.mk (K1.out.trans hkp)
  have HM2 := Aside0.mk (hrd.must_step true 3 (.inl rfl))
  clear hrd hkp HM H1 K1
  go_wp2_with fail
  refine HM2.out.mono ?_
  rintro e w3 ⟨rfl, hrd, hkp⟩
  have H3 := Aside0.mk hrd
  have K3 := Aside0.mk (K2.out.trans hkp)
  clear hrd hkp HM2 H2 K2
  go_wp2_with fail
  refine (kinds_calls _).mono ?_
  rintro e w4 ⟨rfl, b4⟩
  have H4 := Aside0.mk (H3.out.below b4)
  have K4 := Aside0.mk (K3.out.below b4)
  have HC := Aside0.mk (HT.out w4 H4.out)
  clear b4 H3 K3
  go_wp2_with fail
  rw [kinds_at3]
  go_wp2_with fail
  rw [kinds_field1]
  unfold fnv
  go_wp2_with fail
  refine HC.out.mono ?_
  rintro e w5 h5
  have h6 := h5.lift K4.out
  rcases h6 with ⟨h0, v, rfl, ht⟩ | ⟨h0, rfl, hrd, hkp⟩
  · clear h5
    go_wp2
    go_ret
    exact .inl ⟨h0, v, rfl, ht⟩
  · have hfin : Took w0 W g A c l r (.panicked [ends g r.2.2]) w5 := .inr ⟨h0, rfl, hrd, hkp⟩
    (try simp only [Exit.inBlock, Exit.then])
    exact ⟨rfl, hfin⟩
set_option maxHeartbeats 4000000 in
theorem take_4 {w0 W : World} {g : Nat} {A : Option Addr} {c : Nat} {l : List Int} {a : Nat} (h : Rd w0 W g A c l a) (n : Nat) (hn : n ≤ 1024) {r : List S47 × Nat × Int}
    (hT : ∀ W1, Rd w0 W1 g A c l a → Calls Tryd.prog 111 #[.pointer (some ⟨g, 0, none⟩), .int .i64 (n : Int)] W1 (Took w0 W1 g A c l r)) :
    Calls Tryd.prog 29 #[.pointer (some ⟨g, 0, none⟩), .int .i64 4, .int .i64 (n : Int)] W (Took w0 W g A c l r) := by
  have H := Aside0.mk h
  have HT := Aside0.mk hT
  have t1 : decide ((n : Int) ≥ 0) = true := decide_eq_true (by omega)
  have t2 : decide ((0 : Int) ≤ (n : Int)) = true := decide_eq_true (by omega)
  have t3 : decide ((n : Int) ≤ 1024) = true := decide_eq_true (by omega)
  have t4 : decide (n ≤ 1024) = true := decide_eq_true hn
  clear h hT
  go_enter Tryd.func29, Tryd.ntmps29
  go_wp2_with fail
  refine (kindly_calls 4 _).mono ?_
  rintro e w1 ⟨rfl, b1⟩
  have H1 := Aside0.mk (H.out.below b1)
  have K1 := Aside0.mk (Kp.of_below b1 (fun k => k = g))
  rw [show decide ((0 : Int) ≤ 4 ∧ (4 : Int) ≤ 5) = true from rfl]
  have HM := Aside0.mk (H1.out.must_step true 10 (.inl rfl))
  clear b1
  go_wp2_with fail
  refine HM.out.mono ?_
  rintro e w2 ⟨rfl, hrd, hkp⟩
  have H2 := Aside0.mk hrd
  have K2 := Aside0.mk (K1.out.trans hkp)
  have HM2 := Aside0.mk (hrd.must_step true 3 (.inl rfl))
  clear hrd hkp HM H1 K1
  go_wp2_with fail
  refine HM2.out.mono ?_
  rintro e w3 ⟨rfl, hrd, hkp⟩
  have H3 := Aside0.mk hrd
  have K3 := Aside0.mk (K2.out.trans hkp)
  clear hrd hkp HM2 H2 K2
  go_wp2_with fail
  refine (kinds_calls _).mono ?_
  rintro e w4 ⟨rfl, b4⟩
  have H4 := Aside0.mk (H3.out.below b4)
  have K4 := Aside0.mk (K3.out.below b4)
  have HC := Aside0.mk (HT.out w4 H4.out)
  clear b4 H3 K3
  go_wp2_with fail
  rw [kinds_at4]
  go_wp2_with fail
  rw [kinds_field1]
  unfold fnv
  go_wp2_with fail
  refine HC.out.mono ?_
  rintro e w5 h5
  have h6 := h5.lift K4.out
  rcases h6 with ⟨h0, v, rfl, ht⟩ | ⟨h0, rfl, hrd, hkp⟩
  · clear h5
    go_wp2
    go_ret
    exact .inl ⟨h0, v, rfl, ht⟩
  · have hfin : Took w0 W g A c l r (.panicked [ends g r.2.2]) w5 := .inr ⟨h0, rfl, hrd, hkp⟩
    (try simp only [Exit.inBlock, Exit.then])
    exact ⟨rfl, hfin⟩
set_option maxHeartbeats 4000000 in
theorem take_5 {w0 W : World} {g : Nat} {A : Option Addr} {c : Nat} {l : List Int} {a : Nat} (h : Rd w0 W g A c l a) (n : Nat) (hn : n ≤ 1024) {r : List S47 × Nat × Int}
    (hT : ∀ W1, Rd w0 W1 g A c l a → Calls Tryd.prog 113 #[.pointer (some ⟨g, 0, none⟩), .int .i64 (n : Int)] W1 (Took w0 W1 g A c l r)) :
    Calls Tryd.prog 29 #[.pointer (some ⟨g, 0, none⟩), .int .i64 5, .int .i64 (n : Int)] W (Took w0 W g A c l r) := by
  have H := Aside0.mk h
  have HT := Aside0.mk hT
  have t1 : decide ((n : Int) ≥ 0) = true := decide_eq_true (by omega)
  have t2 : decide ((0 : Int) ≤ (n : Int)) = true := decide_eq_true (by omega)
  have t3 : decide ((n : Int) ≤ 1024) = true := decide_eq_true (by omega)
  have t4 : decide (n ≤ 1024) = true := decide_eq_true hn
  clear h hT
  go_enter Tryd.func29, Tryd.ntmps29
  go_wp2_with fail
  refine (kindly_calls 5 _).mono ?_
  rintro e w1 ⟨rfl, b1⟩
  have H1 := Aside0.mk (H.out.below b1)
  have K1 := Aside0.mk (Kp.of_below b1 (fun k => k = g))
  rw [show decide ((0 : Int) ≤ 5 ∧ (5 : Int) ≤ 5) = true from rfl]
  have HM := Aside0.mk (H1.out.must_step true 10 (.inl rfl))
  clear b1
  go_wp2_with fail
  refine HM.out.mono ?_
  rintro e w2 ⟨rfl, hrd, hkp⟩
  have H2 := Aside0.mk hrd
  have K2 := Aside0.mk (K1.out.trans hkp)
  have HM2 := Aside0.mk (hrd.must_step true 3 (.inl rfl))
  clear hrd hkp HM H1 K1
  go_wp2_with fail
  refine HM2.out.mono ?_
  rintro e w3 ⟨rfl, hrd, hkp⟩
  have H3 := Aside0.mk hrd
  have K3 := Aside0.mk (K2.out.trans hkp)
  clear hrd hkp HM2 H2 K2
  go_wp2_with fail
  refine (kinds_calls _).mono ?_
  rintro e w4 ⟨rfl, b4⟩
  have H4 := Aside0.mk (H3.out.below b4)
  have K4 := Aside0.mk (K3.out.below b4)
  have HC := Aside0.mk (HT.out w4 H4.out)
  clear b4 H3 K3
  go_wp2_with fail
  rw [kinds_at5]
  go_wp2_with fail
  rw [kinds_field1]
  unfold fnv
  go_wp2_with fail
  refine HC.out.mono ?_
  rintro e w5 h5
  have h6 := h5.lift K4.out
  rcases h6 with ⟨h0, v, rfl, ht⟩ | ⟨h0, rfl, hrd, hkp⟩
  · clear h5
    go_wp2
    go_ret
    exact .inl ⟨h0, v, rfl, ht⟩
  · have hfin : Took w0 W g A c l r (.panicked [ends g r.2.2]) w5 := .inr ⟨h0, rfl, hrd, hkp⟩
    (try simp only [Exit.inBlock, Exit.then])
    exact ⟨rfl, hfin⟩
set_option maxHeartbeats 4000000 in
theorem take_bad {w0 W : World} {g : Nat} {A : Option Addr} {c : Nat} {l : List Int} {a : Nat} (h : Rd w0 W g A c l a) (k n : Int) (hk : ¬(0 ≤ k ∧ k ≤ 5)) :
    Calls Tryd.prog 29 #[.pointer (some ⟨g, 0, none⟩), .int .i64 k, .int .i64 n] W (Took w0 W g A c l ([], a, 10)) := by
  have H := Aside0.mk h
  have HD := Aside0.mk (show decide (0 ≤ k ∧ k ≤ 5) = false from decide_eq_false hk)
  clear h hk
  go_enter Tryd.func29, Tryd.ntmps29
  go_wp2_with fail
  refine (kindly_calls k _).mono ?_
  rintro e w1 ⟨rfl, b1⟩
  have H1 := Aside0.mk (H.out.below b1)
  have K1 := Aside0.mk (Kp.of_below b1 (fun k => k = g))
  rw [HD.out]
  have HM := Aside0.mk (H1.out.must_end 10 (by decide))
  clear b1
  go_wp2_with fail
  refine HM.out.mono ?_
  rintro e w2 ⟨rfl, hrd, hkp⟩
  have hfin : Took w0 W g A c l ([], a, 10) (.panicked [ends g 10]) w2 := .inr ⟨by show (10 : Int) ≠ 0; decide, rfl, hrd, K1.out.trans hkp⟩
  (try simp only [Exit.inBlock, Exit.then])
  exact ⟨rfl, hfin⟩
set_option maxHeartbeats 4000000 in
theorem take_range {w0 W : World} {g : Nat} {A : Option Addr} {c : Nat} {l : List Int} {a : Nat} (h : Rd w0 W g A c l a) (k n : Int) (hk : 0 ≤ k ∧ k ≤ 5) (hn : ¬(0 ≤ n ∧ n ≤ 1024)) :
    Calls Tryd.prog 29 #[.pointer (some ⟨g, 0, none⟩), .int .i64 k, .int .i64 n] W (Took w0 W g A c l ([], a, 3)) := by
  have H := Aside0.mk h
  have HD := Aside0.mk (show decide (0 ≤ k ∧ k ≤ 5) = true from decide_eq_true hk)
  have HN := Aside0.mk hn
  clear h hk hn
  go_enter Tryd.func29, Tryd.ntmps29
  go_wp2_with fail
  refine (kindly_calls k _).mono ?_
  rintro e w1 ⟨rfl, b1⟩
  have H1 := Aside0.mk (H.out.below b1)
  have K1 := Aside0.mk (Kp.of_below b1 (fun k => k = g))
  rw [HD.out]
  have HM := Aside0.mk (H1.out.must_step true 10 (.inl rfl))
  clear b1
  go_wp2_with fail
  refine HM.out.mono ?_
  rintro e w2 ⟨rfl, hrd, hkp⟩
  have K2 := Aside0.mk (K1.out.trans hkp)
  have HM2 := Aside0.mk (hrd.must_end 3 (by decide))
  clear hrd hkp HM H1 K1
  by_cases h0 : 0 ≤ n
  · have t1 : decide (n ≥ 0) = true := decide_eq_true h0
    have t2 : decide ((0 : Int) ≤ n) = true := decide_eq_true h0
    have t3 : decide (n ≤ 1024) = false := decide_eq_false (fun z => HN.out ⟨h0, z⟩)
    clear h0
    go_wp2_with fail
    refine HM2.out.mono ?_
    rintro e w3 ⟨rfl, hrd, hkp⟩
    have hfin : Took w0 W g A c l ([], a, 3) (.panicked [ends g 3]) w3 := .inr ⟨by show (3 : Int) ≠ 0; decide, rfl, hrd, K2.out.trans hkp⟩
    (try simp only [Exit.inBlock, Exit.then])
    exact ⟨rfl, hfin⟩
  · have t1 : decide (n ≥ 0) = false := decide_eq_false h0
    have t2 : decide ((0 : Int) ≤ n) = false := decide_eq_false h0
    clear h0
    go_wp2_with fail
    refine HM2.out.mono ?_
    rintro e w3 ⟨rfl, hrd, hkp⟩
    have hfin : Took w0 W g A c l ([], a, 3) (.panicked [ends g 3]) w3 := .inr ⟨by show (3 : Int) ≠ 0; decide, rfl, hrd, K2.out.trans hkp⟩
    (try simp only [Exit.inBlock, Exit.then])
    exact ⟨rfl, hfin⟩
/-- Take, of any kind and number. -/
theorem take_calls {w0 W : World} {g : Nat} {A : Option Addr} {c : Nat} {l : List Int} {a : Nat} (h : Rd w0 W g A c l a) (k n : Int) (hU : UtfW w0) :
    Calls Tryd.prog 29 #[.pointer (some ⟨g, 0, none⟩), .int .i64 k, .int .i64 n] W (Took w0 W g A c l (tk l k n a)) := by
  unfold tk
  by_cases hk : 0 ≤ k ∧ k ≤ 5
  case neg => rw [if_pos hk]; exact take_bad h k n hk
  rw [if_neg (Decidable.not_not.2 hk)]
  by_cases hn : 0 ≤ n ∧ n ≤ 1024
  case neg => rw [if_pos hn]; exact take_range h k n hk hn
  rw [if_neg (Decidable.not_not.2 hn)]
  obtain ⟨m, rfl⟩ := Int.eq_ofNat_of_zero_le hn.1
  have hm : m ≤ 1024 := by omega
  rw [Int.toNat_natCast]
  rcases (show k = 0 ∨ k = 1 ∨ k = 2 ∨ k = 3 ∨ k = 4 ∨ k = 5 by omega) with rfl | rfl | rfl | rfl | rfl | rfl
  · rw [if_pos rfl]; exact take_0 h m hm (fun W1 h1 => takeSigned_calls h1 m hm)
  · rw [if_neg (by decide), if_neg (by decide), if_neg (by decide), if_neg (by decide)]; exact take_1 h m hm (fun W1 h1 => takeNumbers_calls h1 m hm)
  · rw [if_neg (by decide), if_pos rfl]; exact take_2 h m hm (fun W1 h1 => takeBools_calls h1 m hm)
  · rw [if_neg (by decide), if_neg (by decide), if_pos rfl]; exact take_3 h m hm (fun W1 h1 => kinds_1 h1 m hm hU)
  · rw [if_neg (by decide), if_neg (by decide), if_neg (by decide), if_pos rfl]; exact take_4 h m hm (fun W1 h1 => kinds_2 h1 m hm hU)
  · rw [if_neg (by decide), if_neg (by decide), if_neg (by decide), if_neg (by decide)]; exact take_5 h m hm (fun W1 h1 => takeNumbers_calls h1 m hm)
/-- Read, of any bytes, kind and number. -/
theorem cread_calls {A : Option Addr} {c : Nat} {l : List Int} (k n : Int) (w : World) (hr : (Kd.int .u8).C w A l.length l) (hc : l.length ≤ c) (hb : Bytes l) (hl : l.length ≤ 140737488351232) (hU : UtfW w) :
    Calls Tryd.prog 24 #[.slice A l.length c, .int .i64 k, .int .i64 n] w fun e w' => ∃ v, e = .returned (.tuple #[v, .int .i64 ((tk l k n 0).2.1 : Int), .int .i64 (rdErr l (tk l k n 0))]) ∧ Kd.R k47 47 w' w.heap.size (fun _ => True) v (rdCells l (tk l k n 0)) ∧ Below w.heap.size w w' :=
  read_calls k n w hr hc hb hl (tk_le hb k n (Nat.zero_le _)) (fun g W1 h => take_calls h k n hU)
end Go.Proofs.YtmoopdhnnpjcfaaDoor.Co
