/- Queue: its items; what wakes. -/
import Derived.Test.YtffegfidaolgjaaQPut
import Derived.Test.YtffegfidaolgjaaSec
import Derived.Test.YtffegfidaolgjaaWEqStruct
set_option linter.unusedVariables false
set_option linter.unusedSimpArgs false
namespace Go.Proofs.Ytffegfidaolgjaa
open Go.RowKit Go.Proofs.YtffegfidaolgjaaW.PrintWords Go.Proofs.YtffegfidaolgjaaW.PrintLast Go.Proofs.YtffegfidaolgjaaW.PrintMore PQueueNil
def secV (d : Int) (odd : Bool) : ByteArray := strOfNums [d] ++ strOfNums (List.replicate (if odd = true then 62 else 63) 0)
theorem secV_size (d : Int) (odd : Bool) : (secV d odd).size = if odd = true then 63 else 64 := by
  unfold secV
  rw [ByteArray.size_append, strOfNums_size, strOfNums_size]
  cases odd <;> simp
theorem secB (d : Int) (odd : Bool) (w : World) : Calls Try.prog 11 #[.int .u8 d, .bool odd] w fun e w' => e = .returned (.string (secV d odd)) ∧ Bel w w' := by
  refine trunnionlaw20_sector.calls d odd _ w ?_
  unfold trunnionlaw20_sector.f secV
  have e1 : (63 - 1 : Int).toNat = 62 := rfl
  cases odd <;> simp [strOfNums_size, e1]
theorem eq33 (d : Nat) (w : World) (x0 y0 : Int) (x1 y1 : ByteArray) (x2 y2 : Int) :
    (Op.equalIn (d + 2) 33 (.agg #[.int .i64 x0, .string x1, .int .i64 x2]) (.agg #[.int .i64 y0, .string y1, .int .i64 y2])).run Try.prog w = .ok (x0 == y0 && (x1.toList == y1.toList && (x2 == y2))) w := by
  refine eqA_of Try.underlying33 (by kernel_rfl) ?_
  refine eqf_cons (by rfl) (by go_simp; rfl) (by go_simp; rfl) (by go_simp) ?_
  refine eqf_cons (by rfl) (by go_simp; rfl) (by go_simp; rfl) (by go_simp) ?_
  exact eqf_last (by rfl) (by go_simp; rfl) (by go_simp; rfl) (by go_simp)
theorem Row.lit {w : World} {base : Nat} {v : Value} {l : List El} (h : Row w base v l) (h0 : 0 < l.length) : ∃ g' c, v = .slice (some ⟨g', 0, none⟩) l.length c ∧ ∀ j u, (flat l)[j]? = some u → w.cell? ⟨g', j, none⟩ = some u := by
  obtain ⟨hl, ⟨_, h1⟩ | ⟨g, cap, cur, rfl, hb, hg, hn, hc, hs, hx⟩⟩ := h
  · omega
  · refine ⟨g, cap, rfl, fun j u hu => ?_⟩
    rw [← hx, List.getElem?_take] at hu
    split at hu
    · rw [blk_cell hg]; simpa using hu
    · simp at hu
set_option maxHeartbeats 4000000 in
set_option maxRecDepth 100000 in
theorem cloneQ (w : World) (base : Nat) (v : Value) (l : List El) (h : Row w base v l) (hlen : l.length ≤ 100000) : Calls Try.prog 36 #[v] w fun e w' => ∃ v', e = .returned v' ∧ Row w' w.heap.size v' l ∧ Bel w w' := by
  have hm : maxLen = 9223372036854775807 := rfl
  have H := h
  obtain ⟨hl, ⟨rfl, h0⟩ | ⟨g, cap, cur, rfl, hb, hg, hn, hc, hs, hx⟩⟩ := h
  · have hl0 : l = [] := List.length_eq_zero_iff.1 h0
    subst hl0
    have hnil : ∀ w, (binOp .eql 54 (.slice none 0 0) (.slice none 0 0)).run Try.prog w = .ok (.bool true) w := fun w => Lib.run_eql_slice_nil (P := Try.prog) w 54 33 none 0 0 0 0 elemS
    clear H
    go_enter Try.func36, Try.ntmps36
    go_wp2_with fail
    go_ret
    exact ⟨_, rfl, Row.nil _ _, Bel.refl _⟩
  · have hnil : ∀ w, (binOp .eql 54 (.slice (some ⟨g, 0, none⟩) l.length cap) (.slice none 0 0)).run Try.prog w = .ok (.bool false) w := fun w => Lib.run_eql_slice_nil (P := Try.prog) w 54 33 (some ⟨g, 0, none⟩) l.length cap 0 0 elemS
    obtain ⟨inf, hq, hz, hi, hby⟩ := infoX
    have hz3 : (Value.agg Z3.toArray).cells.size = 3 := rfl
    have HO : Hid ((w.alloc (.cells #[] 33)).ownsRow w.heap.size 33 3 (.slice (some ⟨w.heap.size, 0, none⟩) 0 0) 0 []) := Lib.hid (World.ownsRow_lit (base := w.heap.size) (e := 33) (size := 3) w #[] 0 (Nat.le_refl _) (by simp [maxLen]) (by simp))
    have HN : Hid (∀ j u, (flat l)[j]? = some u → (w.alloc (.cells #[] 33)).cell? ((⟨g, 0, none⟩ : Addr).add j) = some u) := Lib.hid (fun j u hu => by
      rw [cells_add, Nat.zero_add]
      refine cellB (Bel.alloc w _) ?_
      rw [← hx, List.getElem?_take] at hu
      split at hu
      · rw [blk_cell hg]; simpa using hu
      · simp at hu)
    have HF := Lib.hid (flat_len l)
    have HG := Lib.hid (flat_one l)
    clear H hx hg hs hl hc hb
    generalize hrs : l.length = n at *
    go_enter Try.func36, Try.ntmps36
    go_wp2_with (at_builtin; refine wpList_append_own _ rfl _ _ 54 rfl w.heap.size 33 inf (.agg Z3.toArray) 3 32 elemS hq hz hi hby hz3 (by decide) (.slice (some ⟨w.heap.size, 0, none⟩) 0 0) 0 [] rfl HO.out ⟨g, 0, none⟩ n cap (flat l) rfl HF.out HN.out HG.out (by omega) (by omega) (by simp) ?_; intro v1 w1 ho hgr _; have HR := Lib.hid ho; have HGr := Lib.hid hgr; clear ho hgr)
    go_ret
    refine ⟨_, rfl, ?_, ?_⟩
    · have := HR.out
      unfold Row
      rw [hrs]
      simpa using this
    · have hgr := HGr.out
      have ha := Bel.alloc w (.cells #[] 33)
      exact ⟨hgr.os.trans ha.os, hgr.tape.trans ha.tape, hgr.output.trans ha.output, Nat.le_trans ha.size hgr.size, fun k hk => (hgr.block k (Nat.lt_of_lt_of_le hk ha.size) (by simp [Value.ownBlock]; omega)).trans (ha.block k hk)⟩
theorem itemsQ (w : World) (base g : Nat) (v : Value) (s : QS) (h : IsQ w base g v s) (hlen : s.rs.length ≤ 100000) : Calls Try.prog 22 #[PT g] w fun e w' => ∃ v', e = .returned v' ∧ Row w' w.heap.size v' s.rs ∧ Bel w w' := by
  have K := Lib.hid (cloneQ w base v s.rs h.row hlen)
  obtain ⟨A, c, rfl⟩ := h.row.len
  have h2 := blk_cell h.blk 1
  have hn := nil24
  clear h
  generalize s.rs.length = n at *
  go_enter Try.func22, Try.ntmps22
  go_wp2_with fail
  refine K.out.mono ?_
  rintro e w1 ⟨v1, rfl, hr, hb⟩
  have HF := Lib.hid (And.intro hr hb)
  clear hr hb K
  go_wp2_with fail
  go_ret
  exact ⟨v1, rfl, HF.out.1, HF.out.2⟩
end Go.Proofs.Ytffegfidaolgjaa
