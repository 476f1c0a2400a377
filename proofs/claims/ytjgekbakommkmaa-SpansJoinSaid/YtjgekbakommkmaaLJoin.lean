/- Spans: the walk of SpansJoin. -/
import Derived.Test.YtjgekbakommkmaaJoin
import Derived.Test.YtjgekbakommkmaaChange
set_option linter.unusedVariables false
set_option linter.unusedSimpArgs false
namespace Go.Proofs.Ytjgekbakommkmaa
open Go.RowKit Go.Proofs.YtjgekbakommkmaaW.PrintWords Go.Proofs.YtjgekbakommkmaaW.PrintMore
open PSpansChange Pl
set_option maxHeartbeats 8000000 in
set_option maxRecDepth 100000 in
theorem lawJoinW (A : Option Addr) (c : Nat) (l : List Sp) (A' : Option Addr) (c' : Nat) (m : List Sp) (whole : Bool) (hc : l.length ≤ c) (hc' : m.length ≤ c') (w : World) (hC : Kd.C k30 w A l.length (m30 l)) (hC' : Kd.C k30 w A' m.length (m30 m)) :
    Calls Try.prog 7 #[.slice A l.length c, .slice A' m.length c', .bool whole] w fun e w' => e = .returned (.bool true) ∧ Bel w w' := by
  have KL := Lib.hid (fun w h => listsB A c l whole hc w h)
  have KM := Lib.hid (fun w h => listsB A' c' m whole hc' w h)
  have HC := Lib.hid hC
  have HC' := Lib.hid hC'
  have hal : (listF (l.take 40) whole).length ≤ 40 := Nat.le_trans (listF_len _ _) (by simp; omega)
  have hbl : (listF (m.take 40) whole).length ≤ 40 := Nat.le_trans (listF_len _ _) (by simp; omega)
  generalize listF (l.take 40) whole = a at *
  generalize listF (m.take 40) whole = b at *
  clear hC hC'
  have KW := Lib.hid wakesB
  have KJ := Lib.hid (fun A c A' c' hc hc' w h h' => joinB A c a A' c' b (by omega) (by omega) hc hc' w h h')
  have KG := Lib.hid (fun A c hc w h => rgoodB A c a (by omega) hc w h)
  have KH := Lib.hid (fun A c hc w h => rgoodB A c b (by omega) hc w h)
  have KB := Lib.hid (fun A c A' c' hc hc' w h h' hl hm => bothB A c a A' c' b (joinF a b) 0 hc hc' w h h' (join_ev hl hm (by omega) (by omega)))
  have KS := Lib.hid sameB
  go_enter Try.func7, Try.ntmps7
  go_wp2_with fail
  refine (KL.out _ HC.out).mono ?_
  rintro e w1 ⟨v1, v1', rfl, hr1, hr1', hb1⟩
  obtain ⟨A1, c1, rfl, hc1, hC1⟩ := cells30 hr1
  obtain ⟨B1, d1, rfl, hd1, hD1⟩ := cells31 hr1'
  have HB1 := Lib.hid hb1
  have HC1 := Lib.hid hC1
  have HD1 := Lib.hid hD1
  clear hr1 hr1' hC1 hD1 hb1 KL
  go_wp2_with fail
  refine (KM.out _ (Kd.C_below HC'.out HB1.out)).mono ?_
  rintro e w2 ⟨v2, v2', rfl, hr2, hr2', hb2⟩
  obtain ⟨A2, c2, rfl, hc2, hC2⟩ := cells30 hr2
  obtain ⟨B2, d2, rfl, hd2, hD2⟩ := cells31 hr2'
  have HB2 := Lib.hid (HB1.out.trans hb2)
  have HC12 := Lib.hid (Kd.C_below HC1.out hb2)
  have HD12 := Lib.hid (Kd.C_below HD1.out hb2)
  have HC2 := Lib.hid hC2
  have HD2 := Lib.hid hD2
  clear hr2 hr2' hC2 hD2 hb2 KM HB1 HC1 HD1
  go_wp2_with fail
  refine (KJ.out _ _ _ _ hc1 hc2 _ HC12.out HC2.out).mono ?_
  rintro e w3 ⟨v3, rfl, hr3, hb3⟩
  obtain ⟨A3, c3, rfl, hc3, hC3⟩ := cells30 hr3
  have HB3 := Lib.hid (HB2.out.trans hb3)
  have HD13 := Lib.hid (Kd.C_below HD12.out hb3)
  have HD23 := Lib.hid (Kd.C_below HD2.out hb3)
  have HC3 := Lib.hid hC3
  clear hr3 hC3 hb3 HB2 HC12 HD12 HC2 HD2 KJ
  go_wp2_with fail
  refine (KG.out _ _ hd1 _ HD13.out).mono ?_
  rintro e w4 ⟨rfl, hb4⟩
  have HB4 := Lib.hid (HB3.out.trans hb4)
  have HD14 := Lib.hid (Kd.C_below HD13.out hb4)
  have HD24 := Lib.hid (Kd.C_below HD23.out hb4)
  have HC4 := Lib.hid (Kd.C_below HC3.out hb4)
  clear hb4 HB3 HD13 HD23 HC3
  cases hg : gl a
  · have e4 : joinE a b = 4 := by unfold joinE; rw [hg]; simp
    have ev : errV (joinE a b) (joinF a b) = [] := by rw [e4]; simp [errV]
    rw [ev, e4]
    go_wp2_with fail
    refine (KW.out _).mono ?_
    rintro e w5 ⟨rfl, hb5⟩
    have hfin := HB4.out.trans hb5
    clear hb5 HB4
    go_wp2_with fail
    go_ret
    exact ⟨rfl, hfin⟩
  · go_wp2_with fail
    refine (KH.out _ _ hd2 _ HD24.out).mono ?_
    rintro e w5 ⟨rfl, hb5⟩
    have HB5 := Lib.hid (HB4.out.trans hb5)
    have HD15 := Lib.hid (Kd.C_below HD14.out hb5)
    have HD25 := Lib.hid (Kd.C_below HD24.out hb5)
    have HC5 := Lib.hid (Kd.C_below HC4.out hb5)
    clear hb5 HB4 HD14 HD24 HC4
    cases hm : gl b
    · have e4 : joinE a b = 4 := by unfold joinE; rw [hg, hm]; simp
      have ev : errV (joinE a b) (joinF a b) = [] := by rw [e4]; simp [errV]
      rw [ev, e4]
      go_wp2_with fail
      refine (KW.out _).mono ?_
      rintro e w6 ⟨rfl, hb6⟩
      have hfin := HB5.out.trans hb6
      clear hb6 HB5
      go_wp2_with fail
      go_ret
      exact ⟨rfl, hfin⟩
    · have e0 : joinE a b = 0 := by unfold joinE; rw [hg, hm]; simp
      have ev : errV (joinE a b) (joinF a b) = joinF a b := by rw [e0]; simp [errV]
      rw [ev] at HC5 hc3 ⊢
      rw [e0]
      have hgl := (gl_iff a).1 hg
      have hgm := (gl_iff b).1 hm
      have KB2 := Lib.hid (fun w h h' => KB.out B1 d1 B2 d2 hd1 hd2 w h h' hgl hgm)
      have hjl := (joinF_spec b a hgl hgm.ok).2.2
      clear KB hgl hgm ev e0 hg hm
      generalize joinF a b = J at *
      go_wp2_with fail
      refine (KW.out _).mono ?_
      rintro e w6 ⟨rfl, hb6⟩
      have HB6 := Lib.hid (HB5.out.trans hb6)
      have HD16 := Lib.hid (Kd.C_below HD15.out hb6)
      have HD26 := Lib.hid (Kd.C_below HD25.out hb6)
      have HC6 := Lib.hid (Kd.C_below HC5.out hb6)
      clear hb6 HB5 HD15 HD25 HC5
      go_wp2_with fail
      refine (KB2.out _ HD16.out HD26.out).mono ?_
      rintro e w7 ⟨v7, rfl, hr7, hb7⟩
      obtain ⟨A7, c7, rfl, hc7, hC7⟩ := cells31 hr7
      have HS := Lib.hid (KS.out A3 c3 A7 c7 J (by omega) hc3 hc7 w7 (Kd.C_below HC6.out hb7) hC7)
      have HB7 := Lib.hid (HB6.out.trans hb7)
      clear hr7 hC7 hb7 HB6 HC6 HD16 HD26
      go_wp2_with fail
      refine HS.out.mono ?_
      rintro e w8 ⟨rfl, hb8⟩
      have hfin := HB7.out.trans hb8
      clear hb8 HB7 HS
      go_wp2_with fail
      go_ret
      exact ⟨rfl, hfin⟩
end Go.Proofs.Ytjgekbakommkmaa
