/- Known functions: crc.Slow. | Known functions: lanes.Store. | Known functions: pdqsort of a few. -/
import Derived.Test.YtgpkpheejefiiaaGreatDoorX08
import Derived.Deep.LoopGhost
import Derived.Handy
section
set_option linter.unusedVariables false
set_option linter.unusedSimpArgs false
namespace Go.Proofs.YtgpkpheejefiiaaGreatDoor
open Go.RowKit
theorem wrap_nat (k : IntKind) (m : Nat) (h : m ≤ kTop k) : k.wrap (m : Int) = (m : Int) := by
  have e := wrapQ_eq k (Int.ofNat m)
  have : wrapQ k (Int.ofNat m) = bI (Nat.ble m (kTop k)) (Int.ofNat m) (k.wrap (Int.ofNat m)) := rfl
  rw [this, bI_eq, if_pos (Nat.ble_eq_true_of_le h)] at e
  exact e.symm
theorem and_u32 (m n : Nat) (hm : m < 4294967296) (hn : n < 4294967296) : bits .and .u32 (m : Int) (n : Int) = (Nat.land m n : Nat) := by
  obtain ⟨h1, h2⟩ := and_bit .u32 32 m n (by decide) hm hn
  have : bits .and .u32 (m : Int) (n : Int) = andG .u32 (Int.ofNat m) (Int.ofNat n) := rfl
  rw [this, h2]
  exact wrap_nat .u32 _ (by show _ ≤ 4294967295; omega)
theorem xor_u32 (m n : Nat) (hm : m < 4294967296) (hn : n < 4294967296) : bits .xor .u32 (m : Int) (n : Int) = (Nat.xor m n : Nat) ∧ Nat.xor m n < 4294967296 := by
  obtain ⟨h1, h2⟩ := xor_bit .u32 32 m n (by decide) hm hn
  have : bits .xor .u32 (m : Int) (n : Int) = xorG .u32 (Int.ofNat m) (Int.ofNat n) := rfl
  rw [this, h2]
  exact ⟨wrap_nat .u32 _ (by show _ ≤ 4294967295; omega), h1⟩
theorem crcStep_eq (r : Nat) : crcStep r = if Nat.land r 1 = 1 then Nat.xor (r / 2) 3988292384 else r / 2 := by
  unfold crcStep
  rw [bI_eq]
  by_cases h : Nat.land r 1 = 1
  · rw [if_pos (by rw [h]; rfl), if_pos h]; rfl
  · rw [if_neg (fun e => h (Nat.eq_of_beq_eq_true e)), if_neg h]; rfl
theorem crcStep_lt {r : Nat} (h : r < 4294967296) : crcStep r < 4294967296 := by
  rw [crcStep_eq]
  split
  · exact (xor_u32 _ _ (by omega) (by omega)).2
  · omega
set_option maxHeartbeats 1000000 in
set_option maxRecDepth 100000 in
theorem crcStepB (r : Nat) (hr : r < 4294967296) (w : World) : Calls Tryz.prog 257 #[.int .u32 (r : Int)] w fun e w' => e = .returned (.int .u32 (crcStep r : Nat)) ∧ Bel w w' := by
  have ha := and_u32 r 1 hr (by omega)
  have hx := (xor_u32 (r / 2) 3988292384 (by omega) (by omega)).1
  have hc := crcStep_eq r
  have HC := Lib.hid (And.intro hc (And.intro ha hx))
  clear hc ha hx
  go_enter Tryz.func257, Tryz.ntmps257
  go_wp2
  · rename_i h
    obtain ⟨hc, ha, hx⟩ := HC.out
    have h1 : Nat.land r 1 = 1 := by
      have h := eq_of_beq h
      rw [show ((1 : Int)) = ((1 : Nat) : Int) from rfl, ha] at h
      exact_mod_cast h
    rw [if_pos h1] at hc
    go_ret
    refine ⟨?_, Bel.refl _⟩
    rw [hc, ← hx]
    rfl
  · rename_i h
    obtain ⟨hc, ha, hx⟩ := HC.out
    have h1 : ¬ Nat.land r 1 = 1 := by
      have h := ne_of_beq_false h
      intro e
      rw [show ((1 : Int)) = ((1 : Nat) : Int) from rfl, ha, e] at h
      exact h rfl
    rw [if_neg h1] at hc
    go_ret
    refine ⟨?_, Bel.refl _⟩
    rw [hc]
    rfl
end Go.Proofs.YtgpkpheejefiiaaGreatDoor
end
section
set_option linter.unusedVariables false
set_option linter.unusedSimpArgs false
namespace Go.Proofs.YtgpkpheejefiiaaGreatDoor
open Go.RowKit
noncomputable def stepN : Nat → Nat → Nat
  | 0, x => x
  | n + 1, x => crcStep (stepN n x)
theorem stepN_lt {x : Nat} (h : x < 4294967296) : ∀ n, stepN n x < 4294967296
  | 0 => h
  | n + 1 => crcStep_lt (stepN_lt h n)
theorem crcByte_eq (r b : Nat) : crcByte r b = stepN 8 (Nat.xor r b) := rfl
theorem bytesOf_at {l : List Nat} (hl : ∀ b ∈ l, b < 256) {k : Nat} (hk : k < l.length) (h : k < (bytesOf l).size) : ((bytesOf l)[k]).toNat = l[k] := by
  have e := bytesOf_get l k
  rw [List.getElem?_eq_getElem hk] at e
  have e2 : (bytesOf l)[k]? = some (bytesOf l)[k] := by simp [h]
  rw [e2] at e
  simp at e
  rw [e]
  have := hl l[k] (List.getElem_mem hk)
  simp [Nat.mod_eq_of_lt this]
theorem crcN_drop (l : List Nat) (k : Nat) (h : k < l.length) (r : Nat) : crcN (l.drop k) r = crcN (l.drop (k + 1)) (crcByte r l[k]) := by
  rw [List.drop_eq_getElem_cons h]
  rfl
set_option maxHeartbeats 2000000 in
set_option maxRecDepth 100000 in
theorem slowB (l : List Nat) (hl : ∀ b ∈ l, b < 256) (hn : l.length ≤ 1000000) (w : World) : Calls Tryz.prog 205 #[.string (bytesOf l)] w fun e w' => e = .returned (.int .u32 (crcN l 4294967295 : Nat)) ∧ Bel w w' := by
  have hsz := bytesOf_size l
  have K := Lib.hid crcStepB
  have HX : Hid (Bel w w) := Lib.hid (Bel.refl w)
  have HL := Lib.hid (And.intro hl hn)
  have HA := Lib.hid (fun k (hk : k < l.length) (h : k < (bytesOf l).size) => bytesOf_at hl hk h)
  generalize hs : bytesOf l = s at *
  clear hl hs
  have hlast : crcN [] = fun r => Nat.xor r 4294967295 := rfl
  have HLA := Lib.hid hlast
  clear hlast
  go_enter Tryz.func205, Tryz.ntmps205
  go_wp2_with fail
  go_loopw [3, 7] (fun v3 v7 wr => ∃ (r k : Nat), v3 = .int .u32 r ∧ v7 = .int .i64 k ∧ k ≤ l.length ∧ r < 4294967296 ∧ Hid (crcN (l.drop k) r = crcN l 4294967295) ∧ Hid (Bel w wr)) (fun _ v7 _ => l.length - (intOf v7).toNat)
  case atStart => exact ⟨4294967295, 0, rfl, rfl, by omega, by omega, Lib.hid rfl, HX⟩
  case round =>
    obtain ⟨wi, rfl⟩ : ∃ wi : World, wi = wr := ⟨_, rfl⟩
    obtain ⟨r, k, rfl, rfl, hk, hr, HC, HB⟩ := hrel
    by_cases hlt : k < l.length
    · have hlt' : decide ((k : Int) < l.length) = true := by simp; omega
      have hb := HA.out k hlt (by omega)
      have hb2 := HL.out.1 l[k] (List.getElem_mem hlt)
      have HD := Lib.hid (crcN_drop l k hlt r)
      generalize l[k] = b at *
      have hbm : (b : Int) % 4294967296 = b := by omega
      have hx := xor_u32 r b hr (by omega)
      have hx1 := hx.1
      have hx2 := hx.2
      have HX1 := Lib.hid (rfl : Nat.xor r b = Nat.xor r b)
      rw [crcByte_eq] at HD
      generalize Nat.xor r b = x at *
      clear hx
      go_wp2_with fail
      have HB0 := HB
      go_loopw [3, 16] (fun v3 v16 wr => ∃ (j : Nat), v3 = .int .u32 (stepN j x : Nat) ∧ v16 = .int .i64 j ∧ j ≤ 8 ∧ Hid (Bel w wr)) (fun _ v16 _ => 8 - (intOf v16).toNat)
      case atStart => exact ⟨0, rfl, rfl, by omega, HB0⟩
      case round =>
        obtain ⟨wj, rfl⟩ : ∃ wj : World, wj = wr := ⟨_, rfl⟩
        obtain ⟨j, rfl, rfl, hj, HBj⟩ := hrel
        by_cases hj8 : j < 8
        · have hj' : decide ((j : Int) < 8) = true := by simp; omega
          have Kx := Lib.hid (K.out (stepN j x) (stepN_lt hx2 j))
          have HSn : Hid (crcStep (stepN j x) = stepN (j + 1) x) := Lib.hid rfl
          generalize stepN j x = y at *
          go_wp2_with (go_at_call 257; refine (Kx.out _).mono ?_; rintro e w1 ⟨rfl, hb1⟩; have HB1 := Lib.hid (HBj.out.trans hb1); clear hb1)
          exact ⟨⟨j + 1, by rw [HSn.out], by congr 1, by omega, HB1⟩, by simp [intOf]; omega⟩
        · have hj' : j = 8 := by omega
          subst hj'
          go_wp2_with fail
          exact ⟨⟨stepN 8 x, k + 1, rfl, by congr 1, by omega, stepN_lt hx2 8, Lib.hid (HD.out.symm.trans HC.out), HBj⟩, by simp [intOf]; omega⟩
    · have hkl : k = l.length := by omega
      subst hkl
      have hlt' : decide ((l.length : Int) < l.length) = false := by simp
      have hc := HC.out
      rw [List.drop_length, HLA.out] at hc
      have hx := xor_u32 r 4294967295 hr (by omega)
      have HF := Lib.hid (And.intro hc hx.1)
      clear hc hx
      go_wp2_with fail
      go_ret
      refine ⟨?_, HB.out⟩
      rw [← HF.out.1]
      simp
      have h2 := (xor_u32 4294967295 r (by omega) hr).1
      have e : Nat.xor 4294967295 r = r ^^^ 4294967295 := Nat.xor_comm _ _
      rw [e] at h2
      exact h2
theorem kn205 : KnOK 205 kSlow := by
  intro cb _ args S nx s S' nx' h r w args' hs hG ha
  obtain ⟨x, rfl, h1⟩ := vA1 h
  obtain ⟨l, ex, h2⟩ := vStr h1
  obtain ⟨hc, h3⟩ := vbI h2
  obtain ⟨e1, e2, e3⟩ := vVal h3
  subst ex
  obtain ⟨v, rfl, hv⟩ := ha.one1
  obtain ⟨rfl, hl⟩ := hv.str_inv
  rw [← e1, ← e2, ← e3]
  have hc : lenN l ≤ 1000000 := Nat.le_of_ble_eq_true hc
  rw [lenN_eq] at hc
  exact known_bel hs (enter_run (by kernel_rfl) _ _) (.int .u32 _) (slowB l hl hc w)
end Go.Proofs.YtgpkpheejefiiaaGreatDoor
end
section
set_option linter.unusedVariables false
set_option linter.unusedSimpArgs false
namespace Go.Proofs.YtgpkpheejefiiaaGreatDoor
open Go.RowKit
noncomputable def preW (l : List Nat) (a : Nat) : Nat → Nat
  | 0 => 0
  | i + 1 => preW l a i + byteAt l (a + i) * 256 ^ i
theorem byteAt_eq (l : List Nat) : ∀ k, byteAt l k = (l[k]?).getD 0 := by
  induction l with
  | nil => intro k; simp [byteAt]
  | cons a l ih => intro k; cases k with
    | zero => rfl
    | succ k => show byteAt l k = _; rw [ih]; simp
theorem byteAt_lt {l : List Nat} (h : ∀ b ∈ l, b < 256) (k : Nat) : byteAt l k < 256 := by
  rw [byteAt_eq]
  cases e : l[k]? with
  | none => simp
  | some b => simpa using h b (List.mem_of_getElem? e)
theorem preW_lt {l : List Nat} (h : ∀ b ∈ l, b < 256) (a : Nat) : ∀ i, preW l a i < 256 ^ i
  | 0 => by simp [preW]
  | i + 1 => by
    have := byteAt_lt h (a + i)
    have h1 := preW_lt h a i
    simp only [preW, Nat.pow_succ]
    have : byteAt l (a + i) * 256 ^ i ≤ 255 * 256 ^ i := Nat.mul_le_mul_right _ (by omega)
    omega
theorem wordAt_eq (l : List Nat) (k : Nat) : wordAt l k = preW l k 8 := by
  have : wordAt l k = byteAt l k * 1 + (byteAt l (k + 1) * 256 + (byteAt l (k + 2) * 65536 + (byteAt l (k + 3) * 16777216 + (byteAt l (k + 4) * 4294967296 + (byteAt l (k + 5) * 1099511627776 + (byteAt l (k + 6) * 281474976710656 + (byteAt l (k + 7) * 72057594037927936 + 0))))))) := rfl
  rw [this]
  simp only [preW, Nat.add_zero]
  omega
theorem or_u64 (m n : Nat) (hm : m < 18446744073709551616) (hn : n < 18446744073709551616) : bits .or .u64 (m : Int) (n : Int) = (m ||| n : Nat) := by
  obtain ⟨h1, h2⟩ := or_bit .u64 64 m n (by decide) hm hn
  have : bits .or .u64 (m : Int) (n : Int) = orG .u64 (Int.ofNat m) (Int.ofNat n) := rfl
  rw [this, h2]
  exact wrap_nat .u64 _ (by show Nat.lor m n ≤ 18446744073709551615; omega)
theorem orStep (p b j : Nat) (hp : p < 256 ^ j) (hb : b < 256) (hj : j < 8) : bits .or .u64 (p : Int) (IntKind.u64.wrap (IntKind.u64.wrap (b : Int) * 2 ^ (8 * j))) = ((p + b * 256 ^ j : Nat) : Int) := by
  have e : (256 : Nat) ^ j = 2 ^ (8 * j) := by rw [show 256 = 2 ^ 8 by decide, ← Nat.pow_mul]
  have h1 : (256 : Nat) ^ (j + 1) ≤ 256 ^ 8 := Nat.pow_le_pow_right (by decide) (by omega)
  have h2 : (256 : Nat) ^ (j + 1) = 256 ^ j * 256 := Nat.pow_succ ..
  have h3 : b * 256 ^ j ≤ 255 * 256 ^ j := Nat.mul_le_mul_right _ (by omega)
  have h4 : 0 < (256 : Nat) ^ j := Nat.pow_pos (by decide)
  rw [wrap_nat .u64 b (by show b ≤ 18446744073709551615; omega)]
  have : ((b : Int) * 2 ^ (8 * j)) = ((b * 256 ^ j : Nat) : Int) := by rw [e]; push_cast; rfl
  rw [this, wrap_nat .u64 _ (by show _ ≤ 18446744073709551615; omega), or_u64 _ _ (by omega) (by omega)]
  congr 1
  rw [Nat.or_comm, e, Nat.mul_comm, ← Nat.two_pow_add_eq_or_of_lt (by rw [← e]; exact hp), Nat.add_comm]
set_option maxHeartbeats 2000000 in
set_option maxRecDepth 100000 in
theorem loadW (l : List Nat) (hl : ∀ b ∈ l, b < 256) (hn : l.length ≤ 1000000) (a : Nat) (ha : a ≤ 1000000) (w : World) : Calls Tryz.prog 339 #[.string (bytesOf l), .int .i64 (a : Int)] w fun e w' => e = .returned (.int .u64 (wordAt l a : Nat)) ∧ Bel w w' := by
  have hsz := bytesOf_size l
  have HX : Hid (Bel w w) := Lib.hid (Bel.refl w)
  have HL := Lib.hid (And.intro hl hn)
  have HA := Lib.hid (fun k (hk : k < l.length) (h : k < (bytesOf l).size) => bytesOf_at hl hk h)
  generalize hs : bytesOf l = s at *
  clear hl hs
  have HP := Lib.hid (preW_lt HL.out.1 a)
  rw [wordAt_eq]
  go_enter Tryz.func339, Tryz.ntmps339
  go_wp2_with fail
  go_loopw [5, 7] (fun v5 v7 wr => ∃ (j : Nat), v5 = .int .u64 (preW l a j : Nat) ∧ v7 = .int .i64 j ∧ j ≤ 8 ∧ Hid (Bel w wr)) (fun _ v7 _ => 8 - (intOf v7).toNat)
  case atStart => exact ⟨0, rfl, rfl, by omega, HX⟩
  case round =>
    obtain ⟨wi, rfl⟩ : ∃ wi : World, wi = wr := ⟨_, rfl⟩
    obtain ⟨j, rfl, rfl, hj, HB⟩ := hrel
    by_cases hlt : j < 8
    · have hlt' : decide ((j : Int) < 8) = true := by simp; omega
      have hwn : IntKind.i64.wrap (-(j : Int)) = -(j : Int) := w64i (by omega) (by omega)
      have hws : IntKind.i64.wrap ((l.length : Int) - j) = (l.length : Int) - j := w64i (by omega) (by omega)
      have hg : decide (-(j : Int) ≤ a) = true := by simp; try omega
      have hg2 : decide ((a : Int) ≥ -(j : Int)) = true := by simp; try omega
      by_cases hin : a + j < l.length
      · have hi : decide ((a : Int) < (l.length : Int) - j) = true := by simp; omega
        go_wp2_with fail
        have hb := HA.out (a + j) hin (by omega)
        have he : byteAt l (a + j) = l[a + j] := by rw [byteAt_eq, List.getElem?_eq_getElem hin]; rfl
        refine ⟨⟨j + 1, ?_, by congr 1, by omega, HB⟩, by simp [intOf]; omega⟩
        rw [hb, orStep _ _ j (HP.out j) (HL.out.1 _ (List.getElem_mem hin)) hlt, ← he]
        rfl
      · have hi : decide ((a : Int) < (l.length : Int) - j) = false := by simp; omega
        have he : preW l a (j + 1) = preW l a j := by
          have : byteAt l (a + j) = 0 := by rw [byteAt_eq, List.getElem?_eq_none (by omega)]; rfl
          simp [preW, this]
        have HE := Lib.hid he
        clear he
        go_wp2_with fail
        exact ⟨⟨j + 1, by rw [HE.out], by congr 1, by omega, HB⟩, by simp [intOf]; omega⟩
    · have hj' : j = 8 := by omega
      subst hj'
      have hb := HB.out
      go_wp2_with fail
      go_ret
      exact ⟨rfl, hb⟩
theorem kn339 : KnOK 339 kLoadW := by
  intro cb _ args S nx s S' nx' h r w args' hs hG ha
  obtain ⟨x, y, rfl, h1⟩ := vA2 h
  obtain ⟨l, ex, h2⟩ := vStr h1
  obtain ⟨k, i, ey, h3⟩ := vInt h2
  obtain ⟨hc, h4⟩ := vbI h3
  obtain ⟨hk, hc⟩ := aB_true hc
  obtain ⟨hi, hn⟩ := aB_true hc
  have hk := kEq_true hk
  have hi := inI_true hi
  have hn : lenN l ≤ 1000000 := Nat.le_of_ble_eq_true hn
  rw [lenN_eq] at hn
  obtain ⟨e1, e2, e3⟩ := vVal h4
  subst ex; subst ey; subst hk
  obtain ⟨v, u, rfl, hv, hu⟩ := ha.two2
  obtain ⟨rfl, hl⟩ := hv.str_inv
  obtain rfl := hu.int_inv
  obtain ⟨m, rfl⟩ : ∃ m : Nat, i = m := ⟨i.toNat, by omega⟩
  rw [Int.toNat_natCast] at e1
  rw [← e1, ← e2, ← e3]
  exact known_bel hs (enter_run (by kernel_rfl) _ _) (.int .u64 _) (loadW l hl hn m (by omega) w)
end Go.Proofs.YtgpkpheejefiiaaGreatDoor
end
section
set_option linter.unusedVariables false
set_option linter.unusedSimpArgs false
namespace Go.Proofs.YtgpkpheejefiiaaGreatDoor
open Go.RowKit
theorem run_bytes8 (c0 c1 c2 c3 c4 c5 c6 c7 : Int) (w : World) : Sem.run Tryz.prog (convert 58 9 (Value.slice (some { block := w.heap.size, off := 0 }) 8 8)) (w.alloc (Obj.cells #[.int .u8 c0, .int .u8 c1, .int .u8 c2, .int .u8 c3, .int .u8 c4, .int .u8 c5, .int .u8 c6, .int .u8 c7] 501)) = .ok (.string (strOfNums [c0, c1, c2, c3, c4, c5, c6, c7])) (w.alloc (Obj.cells #[.int .u8 c0, .int .u8 c1, .int .u8 c2, .int .u8 c3, .int .u8 c4, .int .u8 c5, .int .u8 c6, .int .u8 c7] 501)) := by
  refine run_convert_bytes_arg _ 58 5 Tryz.underlying58 Tryz.underlying5 _ 0 8 8 [c0, c1, c2, c3, c4, c5, c6, c7] rfl ?_ 9 Tryz.underlying9
  intro i hi
  rcases (by omega : i = 0 ∨ i = 1 ∨ i = 2 ∨ i = 3 ∨ i = 4 ∨ i = 5 ∨ i = 6 ∨ i = 7) with rfl | rfl | rfl | rfl | rfl | rfl | rfl | rfl <;> simp [go_sem]
set_option maxHeartbeats 4000000 in
set_option maxRecDepth 100000 in
theorem storeW0 (x : Int) (w : World) :
    Calls Tryz.prog 338 #[.int .u64 x] w fun e w' => e = .returned (.string (strOfNums [x % 256, x / 256 % 256, x / 65536 % 256, x / 16777216 % 256, x / 4294967296 % 256, x / 1099511627776 % 256, x / 281474976710656 % 256, x / 72057594037927936 % 256])) ∧ ∃ o, w' = w.alloc o := by
  have hcv := run_bytes8
  go_enter Tryz.func338, Tryz.ntmps338
  go_wp2
  go_rounds 9
  go_ret
  exact ⟨rfl, _, rfl⟩
theorem strOfNums_nat (l : List Nat) : strOfNums (l.map Int.ofNat) = bytesOf l := by
  unfold strOfNums bytesOf
  simp
theorem storeW (x : Nat) (w : World) : Calls Tryz.prog 338 #[.int .u64 (x : Int)] w fun e w' => e = .returned (.string (bytesOf (bytesW 8 x))) ∧ Bel w w' := by
  refine (storeW0 x w).mono fun e w' ⟨h1, o, h2⟩ => ⟨?_, by rw [h2]; exact Bel.alloc _ _⟩
  rw [h1, ← strOfNums_nat]
  congr 3
  have : bytesW 8 x = [x % 256, x / 256 % 256, x / 256 / 256 % 256, x / 256 / 256 / 256 % 256, x / 256 / 256 / 256 / 256 % 256, x / 256 / 256 / 256 / 256 / 256 % 256, x / 256 / 256 / 256 / 256 / 256 / 256 % 256, x / 256 / 256 / 256 / 256 / 256 / 256 / 256 % 256] := rfl
  rw [this]
  have e : ∀ a b c d e f g h a' b' c' d' e' f' g' h' : Int, a = a' → b = b' → c = c' → d = d' → e = e' → f = f' → g = g' → h = h' → [a, b, c, d, e, f, g, h] = [a', b', c', d', e', f', g', h'] := by
    intro a b c d e f g h a' b' c' d' e' f' g' h' h1 h2 h3 h4 h5 h6 h7 h8
    rw [h1, h2, h3, h4, h5, h6, h7, h8]
  simp only [List.map_cons, List.map_nil, Int.ofNat_eq_natCast]
  apply e <;> omega
theorem bytesW_lt : ∀ (n x : Nat), ∀ b ∈ bytesW n x, b < 256
  | 0, x, b, h => by
    have h : b ∈ ([] : List Nat) := h
    simp at h
  | n + 1, x, b, h => by
    have h : b ∈ x % 256 :: bytesW n (x / 256) := h
    rcases List.mem_cons.1 h with rfl | h
    · exact Nat.mod_lt _ (by decide)
    · exact bytesW_lt n _ b h
theorem kn338 : KnOK 338 kStoreW := by
  intro cb _ args S nx s S' nx' h r w args' hs hG ha
  obtain ⟨x, rfl, h1⟩ := vA1 h
  obtain ⟨k, i, ex, h2⟩ := vInt h1
  obtain ⟨hc, h3⟩ := vbI h2
  obtain ⟨hk, hi⟩ := aB_true hc
  have hk := kEq_true hk
  rw [leI_eq] at hi
  have hi : 0 ≤ i := of_decide_eq_true hi
  obtain ⟨e1, e2, e3⟩ := vVal h3
  subst ex; subst hk
  obtain ⟨v, rfl, hv⟩ := ha.one1
  obtain rfl := hv.int_inv
  obtain ⟨m, rfl⟩ : ∃ m : Nat, i = m := ⟨i.toNat, by omega⟩
  rw [Int.toNat_natCast] at e1
  rw [← e1, ← e2, ← e3]
  exact known_bel hs (enter_run (by kernel_rfl) _ _) (.str _ (bytesW_lt 8 m)) (storeW m w)
end Go.Proofs.YtgpkpheejefiiaaGreatDoor
end
section
set_option linter.unusedVariables false
set_option linter.unusedSimpArgs false
namespace Go.Proofs.YtgpkpheejefiiaaGreatDoor
open Go.RowKit
set_option maxHeartbeats 4000000 in
set_option maxRecDepth 100000 in
theorem sortB (vx vd : Value) (a b : Int) (h0 : 0 ≤ b - a) (h1 : b - a < 13) (w : World) (R : World → Prop) (hc : Calls Tryz.prog 277 #[vx, .int .i64 a, .int .i64 b] w fun e w' => (∃ v, e = .returned v) ∧ R w') :
    Calls Tryz.prog 225 #[vx, .int .i64 a, .int .i64 b, vd] w fun e w' => e = .returned (.tuple #[]) ∧ R w' := by
  have hw : IntKind.i64.wrap (b - a) = b - a := w64i (by omega) (by omega)
  have hd : decide (b - a ≤ 12) = true := by simp; try omega
  have HC := Lib.hid hc
  clear hc h0 h1
  go_enter Tryz.func225, Tryz.ntmps225
  go_wp2_with fail
  go_loopw [1, 2] (fun v1 v2 wr => v1 = .int .i64 a ∧ v2 = .int .i64 b ∧ wr = w) (fun _ _ _ => 0)
  case atStart => exact ⟨rfl, rfl, rfl⟩
  case round =>
    obtain ⟨rfl, rfl, rfl⟩ := hrel
    go_wp2_with (go_at_call 277; refine HC.out.mono ?_; rintro e w1 ⟨⟨v, rfl⟩, hR⟩; have HR := Lib.hid hR; clear hR)
    first | (refine bodyPost_ret (results_none rfl _ _ _) rfl ?_) | (simp only [Exit.inBlock, Exit.then]; refine bodyPost_ret (results_none rfl _ _ _) rfl ?_)
    exact ⟨rfl, HR.out⟩
theorem kn225 : KnOK 225 kSort := by
  intro cb hcb args S nx s S' nx' h r w args' hs hG ha
  match args, h with
  | [x, y, z, d], h =>
    obtain ⟨j, a, ey, h1⟩ := vInt h
    obtain ⟨k, b, ez, h2⟩ := vInt h1
    obtain ⟨hc, h3⟩ := vbI h2
    obtain ⟨hjk, hi⟩ := aB_true hc
    obtain ⟨hj', hk'⟩ := aB_true hjk
    have hj := kEq_true hj'
    have hk := kEq_true hk'
    have hi := inI_true hi
    obtain ⟨s1, S1, n1, e1, h4⟩ := vVO h3
    obtain ⟨x1, x2, x3⟩ := vVal h4
    subst ey; subst ez; subst hj; subst hk
    cases ha with | cons _ v0 _ _ a0 ha =>
    cases ha with | cons _ v1 _ _ a1 ha =>
    cases ha with | cons _ v2 _ _ a2 ha =>
    obtain ⟨v3, rfl, a3⟩ := ha.one1
    have b1 := a1.int_inv
    have b2 := a2.int_inv
    subst b1; subst b2
    have hC := (hcb 277 _ S nx s1 S1 n1 e1 r w [v0, .int .i64 a, .int .i64 b] hs hG (.cons _ _ _ _ a0 (.cons _ _ _ _ (.int _ _) (.cons _ _ _ _ (.int _ _) .nil)))).calls (enter_run (by kernel_rfl) _ _)
    refine .inr ⟨enter_run (by kernel_rfl) _ _, (sortB v0 v3 a b hi.1 hi.2 w (fun w' => ∃ r' v, r.le r' ∧ Sim r' S1 n1 w' ∧ Emb r' s1 v ∧ Upd (feet r) w (feet r') w') (hC.mono fun e w' ⟨r', v, q1, q2, q3, q4, q5⟩ => ⟨⟨v, q1⟩, r', v, q2, q3, q4, q5⟩)).mono fun e w' ⟨q0, r', v, q2, q3, q4, q5⟩ => ?_⟩
    rw [← x1, ← x2, ← x3]
    exact ⟨r', _, q0, q2, q3, .undef, q5⟩
end Go.Proofs.YtgpkpheejefiiaaGreatDoor
end
