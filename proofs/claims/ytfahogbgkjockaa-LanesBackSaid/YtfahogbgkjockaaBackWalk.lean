/- LanesBack, the walk. -/
import Derived.Test.YtfahogbgkjockaaWakes
import Derived.OpenShut
namespace Go.Proofs.Ytfahogbgkjockaa
open Go.RowKit Go.Proofs.YtfahogbgkjockaaW.PrintWords
theorem bt_data (S : ByteArray) (j : Nat) (h : j < S.data.toList.length) : bt S (j : Int) = ((S.data.toList[j]'h).toNat : Int) := by
  have hs : j < S.size := by simpa using h
  unfold bt
  simp only [Int.toNat_natCast, hs, dite_true]
  rfl
theorem ld8_back (s m : ByteArray) (l : List Nat) (h : By l) (h8 : l.length = 8) : ld8 (s ++ strOfNums (l.map fun b : Nat => (b : Int)) ++ m) (s.size : Int) = l := by
  have hd : (s ++ strOfNums (l.map fun b : Nat => (b : Int)) ++ m).data.toList = s.data.toList ++ (l.map fun b => UInt8.ofNat b) ++ m.data.toList := by
    simp [ByteArray.data_append, strOfNums_data]
  have hsz : (s ++ strOfNums (l.map fun b : Nat => (b : Int)) ++ m).size = s.size + 8 + m.size := by
    simp [ByteArray.size_append, strOfNums_size, h8]
  generalize s ++ strOfNums (l.map fun b : Nat => (b : Int)) ++ m = S at hd hsz ⊢
  have key : ∀ i (hi : i < l.length), ldB S (s.size : Int) i = l[i] := by
    intro i hi
    have hb := h l[i] (List.getElem_mem hi)
    have hlen : s.size + i < S.data.toList.length := by
      have : S.data.toList.length = S.size := by simp
      omega
    have hv := bt_data S (s.size + i) hlen
    unfold ldB
    rw [if_pos (by omega), show ((s.size : Int) + (i : Int)) = ((s.size + i : Nat) : Int) by omega, hv]
    have : S.data.toList[s.size + i]'hlen = UInt8.ofNat l[i] := by
      have h2 : S.data.toList[s.size + i]? = some (UInt8.ofNat l[i]) := by
        rw [hd, List.append_assoc, List.getElem?_append_right (by simp), show s.size + i - s.data.toList.length = i by simp, List.getElem?_append_left (by simpa using hi)]
        simp [hi]
      rw [List.getElem?_eq_getElem hlen] at h2
      exact Option.some.inj h2
    rw [this]
    simp
    omega
  obtain ⟨b0, b1, b2, b3, b4, b5, b6, b7, rfl⟩ := list8 l h8
  unfold ld8
  rw [key 0 (by simp), key 1 (by simp), key 2 (by simp), key 3 (by simp), key 4 (by simp), key 5 (by simp), key 6 (by simp), key 7 (by simp)]
  rfl
set_option maxHeartbeats 1000000 in
set_option maxRecDepth 100000 in
theorem back_calls (l : List Nat) (s : ByteArray) (w : World) (h : By l) (h8 : l.length = 8) (hs : s.size ≤ 140737488351232) : Calls Try.prog 4 #[.int .u64 (W l : Nat), .string s] w fun e w' => e = .returned (.bool true) ∧ Bel w w' := by
  have h1 := fun w => storeB l w h h8
  have h2 := fun w => halfB l w h h8
  have h3 := fun w => twiceB l w h h8
  have h4 := fun w => halfB (l.map tw) w (h.map fun b hb => tw_lt hb) (by simpa using h8)
  have h5 := fun w => twiceB (l.map hf) w (h.map fun b hb => hf_lt hb) (by simpa using h8)
  have e4 : (l.map tw).map hf = l := by
    rw [List.map_map]
    conv => rhs; rw [← List.map_id l]
    exact List.map_congr_left fun b hb => hf_tw b (h b hb)
  have e5 : (l.map hf).map tw = l := by
    rw [List.map_map]
    conv => rhs; rw [← List.map_id l]
    exact List.map_congr_left fun b hb => tw_hf b (h b hb)
  rw [e4] at h4
  rw [e5] at h5
  have h6 : ∀ (s : ByteArray), s.size ≤ 100 → ∀ w, Calls Try.prog 10 #[.string (s ++ strOfNums (l.map fun b : Nat => (b : Int)) ++ ⟨#[109, 111, 114, 101]⟩), .int .i64 s.size] w fun e w' => e = .returned (.int .u64 (W l : Nat)) ∧ Bel w w' := by
    intro s hs w
    have hz : (⟨#[109, 111, 114, 101]⟩ : ByteArray).size = 4 := rfl
    have := loadB (s ++ strOfNums (l.map fun b : Nat => (b : Int)) ++ ⟨#[109, 111, 114, 101]⟩) s.size w (by rw [ByteArray.size_append, ByteArray.size_append, strOfNums_size, List.length_map, h8, hz]; omega) (by omega) (by omega)
    rwa [ld8_back s _ l h h8] at this
  have hSS : (strOfNums (l.map fun b : Nat => (b : Int))).size = 8 := by rw [strOfNums_size]; simpa using h8
  generalize hX : ((W l : Nat) : Int) = X at *
  generalize hST : strOfNums (l.map fun b : Nat => (b : Int)) = ST at *
  generalize ((W (l.map tw) : Nat) : Int) = Y at *
  generalize ((W (l.map hf) : Nat) : Int) = Z at *
  have H1 := Lib.hid h1
  have H2 := Lib.hid h2
  have H3 := Lib.hid h3
  have H4 := Lib.hid h4
  have H5 := Lib.hid h5
  have H6 := Lib.hid h6
  have hle : ST.size ≤ 8 := by omega
  clear h1 h2 h3 h4 h5 h6 hX hST hSS e4 e5
  by_cases hk : s.size ≤ 100
  · go_enter Try.func4, Try.ntmps4
    go_wp2_with fail
    refine (wakesB _).mono ?_
    rintro e w1 ⟨rfl, hb1⟩
    go_wp2_with fail
    refine (H1.out _).mono ?_
    rintro e w2 ⟨rfl, hb2⟩
    go_wp2_with fail
    refine (H6.out s hk _).mono ?_
    rintro e w3 ⟨rfl, hb3⟩
    go_wp2_with fail
    refine (H3.out _).mono ?_
    rintro e w4 ⟨rfl, hb4⟩
    go_wp2_with fail
    refine (H4.out _).mono ?_
    rintro e w5 ⟨rfl, hb5⟩
    go_wp2_with fail
    refine (H2.out _).mono ?_
    rintro e w6 ⟨rfl, hb6⟩
    go_wp2_with fail
    refine (H5.out _).mono ?_
    rintro e w7 ⟨rfl, hb7⟩
    go_wp2_with fail
    go_ret
    exact ⟨rfl, (((((hb1.trans hb2).trans hb3).trans hb4).trans hb5).trans hb6).trans hb7⟩
  · have hx : (s.extract 0 100).size = 100 := by rw [ByteArray.size_extract]; omega
    have h7 := H6.out (s.extract 0 100) (by omega)
    rw [show (((s.extract 0 100).size : Nat) : Int) = ((min 100 s.size : Nat) : Int) by omega] at h7
    have H7 := Lib.hid h7
    clear h7
    have hx2 : (s.extract 0 100).size ≤ 100 := by omega
    clear hx
    go_enter Try.func4, Try.ntmps4
    go_wp2_with fail
    refine (wakesB _).mono ?_
    rintro e w1 ⟨rfl, hb1⟩
    go_wp2_with fail
    refine (H1.out _).mono ?_
    rintro e w2 ⟨rfl, hb2⟩
    go_wp2_with fail
    refine (H7.out _).mono ?_
    rintro e w3 ⟨rfl, hb3⟩
    go_wp2_with fail
    refine (H3.out _).mono ?_
    rintro e w4 ⟨rfl, hb4⟩
    go_wp2_with fail
    refine (H4.out _).mono ?_
    rintro e w5 ⟨rfl, hb5⟩
    go_wp2_with fail
    refine (H2.out _).mono ?_
    rintro e w6 ⟨rfl, hb6⟩
    go_wp2_with fail
    refine (H5.out _).mono ?_
    rintro e w7 ⟨rfl, hb7⟩
    go_wp2_with fail
    go_ret
    exact ⟨rfl, (((((hb1.trans hb2).trans hb3).trans hb4).trans hb5).trans hb6).trans hb7⟩
theorem back_law (x : Int) (s : ByteArray) (hx : (Lit.int .u64 x).wf = true) (hs : s.size ≤ 140737488351232) (w : World) : Calls Try.prog 4 #[.int .u64 x, .string s] w fun e w' => e = .returned (.bool true) ∧ Below w.heap.size w w' := by
  have h1 := bounds_u64 hx
  obtain ⟨l, h8, hl, e⟩ := of8 x.toNat (by omega)
  have hX : x = ((W l : Nat) : Int) := by omega
  rw [hX]
  exact back_calls l s w hl h8 hs
end Go.Proofs.Ytfahogbgkjockaa
