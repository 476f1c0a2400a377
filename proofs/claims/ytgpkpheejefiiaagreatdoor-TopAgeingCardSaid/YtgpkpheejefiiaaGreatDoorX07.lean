/- Members: what they hold; their calls. | sync.Once, one goroutine: what is called once, and what is behind it. Turned out of the guide's worked text on a Once. | Where batches stand: how many writes a batch may have. -/
import Derived.Test.YtgpkpheejefiiaaGreatDoorX01
import Derived.Laws.LoneSync
import Derived.Tactics2
import Derived.Defers
import Derived.Laws.Pointers
import Derived.RegionCalls
import Derived.ChangeAlike
section
set_option linter.unusedVariables false
set_option linter.unusedSimpArgs false
namespace Go.Proofs.YtgpkpheejefiiaaGreatDoor
open Go.RowKit
/-- atomic.AddInt64, LoadInt64, StoreInt64, LoadUint32, StoreUint32, as runs. -/
theorem xAdd {w : World} {a : Addr} {x d : Int} (h : w.cell? a = some (.int .i64 x)) (hf : w.frozen? a = false) : (callFunc 191 #[.pointer (some a), .int .i64 d]).run Tryz.prog w = .ok (.value (.int .i64 (IntKind.i64.wrap (x + d)))) (w.setCell a (.int .i64 (IntKind.i64.wrap (x + d)))) :=
  run_call_add (P := Tryz.prog) Tryz.func191 (by kernel_rfl) (by kernel_rfl) (by kernel_rfl) .i64 (by kernel_rfl) h hf (by simp [Op.intArith])
theorem xLoad {w : World} {a : Addr} {x : Int} (h : w.cell? a = some (.int .i64 x)) : (callFunc 190 #[.pointer (some a)]).run Tryz.prog w = .ok (.value (.int .i64 x)) w :=
  run_call_load (P := Tryz.prog) Tryz.func190 (by kernel_rfl) (by kernel_rfl) (by kernel_rfl) .i64 (by kernel_rfl) h
theorem xStore {w : World} {a : Addr} {u : Value} {x : Int} (h : w.cell? a = some u) (hf : w.frozen? a = false) : (callFunc 111 #[.pointer (some a), .int .i64 x]).run Tryz.prog w = .ok (.value (.tuple #[])) (w.setCell a (.int .i64 x)) :=
  run_call_store (P := Tryz.prog) Tryz.func111 (by kernel_rfl) (by kernel_rfl) (by kernel_rfl) (by kernel_rfl) h hf
theorem xLoad32 {w : World} {a : Addr} {x : Int} (h : w.cell? a = some (.int .u32 x)) : (callFunc 189 #[.pointer (some a)]).run Tryz.prog w = .ok (.value (.int .u32 x)) w :=
  run_call_load (P := Tryz.prog) Tryz.func189 (by kernel_rfl) (by kernel_rfl) (by kernel_rfl) .u32 (by kernel_rfl) h
theorem xStore32 {w : World} {a : Addr} {u : Value} {x : Int} (h : w.cell? a = some u) (hf : w.frozen? a = false) : (callFunc 112 #[.pointer (some a), .int .u32 x]).run Tryz.prog w = .ok (.value (.tuple #[])) (w.setCell a (.int .u32 x)) :=
  run_call_store (P := Tryz.prog) Tryz.func112 (by kernel_rfl) (by kernel_rfl) (by kernel_rfl) (by kernel_rfl) h hf
set_option maxHeartbeats 1000000 in
set_option maxRecDepth 100000 in
theorem mAddI (w : World) (g o : Nat) (x d : Int) (h : w.cell? ⟨g, o, none⟩ = some (.int .i64 x)) (hf : w.frozen? ⟨g, o, none⟩ = false) :
    Calls Tryz.prog 127 #[.pointer (some ⟨g, o, none⟩), .int .i64 d] w fun e w' => e = .returned (.int .i64 (IntKind.i64.wrap (x + d))) ∧ w' = w.setCell ⟨g, o, none⟩ (.int .i64 (IntKind.i64.wrap (x + d))) := by
  have hx := xAdd (d := d) h hf
  go_enter Tryz.func127, Tryz.ntmps127
  have e : wrap64 (x + d) = IntKind.i64.wrap (x + d) := by rw [IntKind.wrap_i64]; unfold wrap64; omega
  go_wp2
  go_ret
  rw [e]
  exact ⟨rfl, rfl⟩
/-- Rows of texts; rows of writes that wait. -/
def KS : Enc ByteArray := ⟨fun x => [.string x], 1, 9, fun _ => rfl, fun p u hu => by simp at hu; subst hu; rfl, by decide, ByteArray.empty⟩
def KWt : Enc (Int × ByteArray) := ⟨fun x => [.int .i64 x.1, .string x.2], 2, 313, fun _ => rfl, fun p u hu => by simp at hu; rcases hu with rfl | rfl <;> rfl, by decide, (0, ByteArray.empty)⟩
structure MS where
  rd : Int
  wr : Int
  fl : Int
  rp : Int
  last : List ByteArray
  now : List ByteArray
  wait : List (Int × ByteArray)
  dead : Bool
/-- What a member stands on. -/
structure MA where
  g : Nat
  vl : Value
  vn : Value
  vw : Value
def MA.F (a : MA) : Nat → Prop := fun k => k = a.g ∨ ownF a.vl k ∨ ownF a.vn k ∨ ownF a.vw k
structure IsM (w : World) (base : Nat) (a : MA) (m : MS) : Prop where
  blk : w.heap[a.g]? = some (.cells #[.int .i64 m.rd, .int .i64 m.wr, .int .i64 m.fl, .int .i64 m.rp, a.vl, a.vn, a.vw, .bool m.dead] 147 (0, 0))
  last : KS.Row w base a.vl m.last
  now : KS.Row w base a.vn m.now
  wait : KWt.Row w base a.vw m.wait
  two : ∀ k, ownF a.vl k → ¬ ownF a.vn k
  len : m.last.length = m.now.length
theorem IsM.agree {w w' : World} {base : Nat} {a : MA} {m : MS} (h : IsM w base a m) (ha : ∀ k, a.F k → w'.heap[k]? = w.heap[k]?) : IsM w' base a m :=
  ⟨(ha _ (.inl rfl)).trans h.blk, h.last.agree (fun k hk => ha k (.inr (.inl hk))), h.now.agree (fun k hk => ha k (.inr (.inr (.inl hk)))), h.wait.agree (fun k hk => ha k (.inr (.inr (.inr hk)))), h.two, h.len⟩
theorem IsM.bel {w w' : World} {base : Nat} {a : MA} {m : MS} (h : IsM w base a m) (k : Bel w w') : IsM w' base a m :=
  ⟨blk_below h.blk k, h.last.bel k, h.now.bel k, h.wait.bel k, h.two, h.len⟩
theorem IsM.lt {w : World} {base : Nat} {a : MA} {m : MS} (h : IsM w base a m) : ∀ k, a.F k → k < w.heap.size := fun k hk => by
  rcases hk with rfl | hk | hk | hk
  · exact blk_lt h.blk
  · exact h.last.foot_lt k hk
  · exact h.now.foot_lt k hk
  · exact h.wait.foot_lt k hk
theorem f2 {w : World} {g : Nat} {cs : Array Value} {t : TypeId} (h : w.heap[g]? = some (.cells cs t (0, 0))) (j : Nat) {v : Value} (hv : cs[j]? = some v) : w.cell? ⟨g, j, none⟩ = some v ∧ w.frozen? ⟨g, j, none⟩ = false := ⟨by rw [blk_cell h, hv], blk_frozen h j⟩
/-- May a sector be asked for? -/
def mmay (m : MS) (at_ : Int) : Int := if m.dead = true then 22 else if at_ < 0 ∨ (m.now.length : Int) ≤ at_ then 3 else 0
set_option maxRecDepth 100000 in
theorem nil65 (w : World) (p : Option Addr) : (binOp .eql 65 (.pointer p) (.pointer none)).run Tryz.prog w = .ok (.bool p.isNone) w := run_eql_pointer_nil (P := Tryz.prog) w 65 p Tryz.underlying65
theorem setc_size {w : World} {g i : Nat} {cs : Array Value} {t : TypeId} (h : w.heap[g]? = some (.cells cs t (0, 0))) (u : Value) : (w.setCell ⟨g, i, none⟩ u).heap.size = w.heap.size := by
  rw [setCell_eq_setRow w g i _ t (0, 0) u h]; simp [World.setRow]
theorem mSetS {w : World} {base : Nat} {v : Value} {l : List ByteArray} (h : KS.Row w base v l) {k : Nat} (hk : k < l.length) (x : ByteArray) :
    ∃ g' c, v = .slice (some ⟨g', 0, none⟩) l.length c ∧ (∃ u, w.cell? ⟨g', k, none⟩ = some u) ∧ w.frozen? ⟨g', k, none⟩ = false ∧ KS.Row (w.setCell ⟨g', k, none⟩ (.string x)) base v (l.set k x) ∧ w.grownBy (w.setCell ⟨g', k, none⟩ (.string x)) v.ownBlock := by
  obtain ⟨A, c0, e0, _, hR⟩ := h.reads
  obtain ⟨g', c, e, _, h1, h2, h3⟩ := h.setW (k := k) (j := 0) hk (by decide) x (.string x) rfl
  have hm : k * KS.m + 0 = k := by have : KS.m = 1 := rfl; rw [this]; omega
  rw [hm] at h1 h2 h3
  refine ⟨g', c, e, ?_, h1, h2, h3⟩
  rw [e] at e0
  simp only [Value.slice.injEq] at e0
  obtain ⟨ad, ea, hc⟩ := hR k hk
  rw [← e0.1] at ea
  obtain rfl := Option.some.inj ea
  have := hc 0 _ rfl
  have hm2 : KS.m = 1 := rfl
  rw [hm2, cells_add] at this
  exact ⟨_, by simpa using this⟩
/-- An own row of texts, read. -/
theorem readsS {w : World} {base : Nat} {v : Value} {l : List ByteArray} (h : KS.Row w base v l) : ∃ A c, v = .slice A l.length c ∧ l.length ≤ c ∧ (0 < l.length → ∃ g, A = some ⟨g, 0, none⟩ ∧ v.ownBlock = some g ∧ ∀ i, i < l.length → w.cell? ⟨g, i, none⟩ = some (.string (KS.nth l i))) := by
  obtain ⟨hl, ⟨rfl, h0⟩ | ⟨g, cap, cur, rfl, hb, hg, hn, hc, hs, hx⟩⟩ := h
  · exact ⟨none, 0, by rw [h0], by omega, fun hi => by omega⟩
  · refine ⟨_, _, rfl, hn, fun _ => ⟨g, rfl, rfl, fun i hi => ?_⟩⟩
    have := KS.flat_get l i 0 hi (by decide)
    rw [← hx, List.getElem?_take] at this
    have hm : KS.m = 1 := rfl
    rw [hm] at this
    simp only [Nat.mul_one, Nat.add_zero] at this
    rw [if_pos (by omega)] at this
    rw [blk_cell hg, ← Array.getElem?_toList, this]
    rfl
theorem info313 : (Tryz.prog.info? 313).map (fun i => (i.zero, i.size, i.bytes)) = some (some (.agg #[.int .i64 0, .string ⟨#[]⟩]), 2, 24) := by kernel_rfl
theorem Enc.Row.apart_ty {α β : Type} {K : Enc α} {L : Enc β} {w : World} {b c : Nat} {v u : Value} {l : List α} {m : List β} (h : K.Row w b v l) (k : L.Row w c u m) (ht : K.E ≠ L.E) : ∀ i, u.ownBlock = some i → v.ownBlock ≠ some i := fun i hi e => by
  obtain ⟨_, cs, h2⟩ := k.blk hi
  exact h.ne_blk h2 ht e
theorem Enc.Row.grown_off {α : Type} {K : Enc α} {w w' : World} {b : Nat} {v u : Value} {l : List α} (h : K.Row w b v l) (hg : w.grownBy w' u.ownBlock) (hne : ∀ k, u.ownBlock = some k → v.ownBlock ≠ some k) : K.Row w' b v l :=
  owns_blk h (fun k hk => hg.block k (h.foot_lt k hk) (fun e => hne k e.symm hk))
def MS.wrote (m : MS) (at_ : Nat) (s : ByteArray) : MS := { m with wr := IntKind.i64.wrap (m.wr + 1), now := m.now.set at_ s, wait := m.wait ++ [((at_ : Int), s)] }
set_option maxHeartbeats 4000000 in
set_option maxRecDepth 100000 in
theorem writeM (w : World) (base : Nat) (a : MA) (m : MS) (at_ : Nat) (s : ByteArray) (hd : m.dead = false) (hat : at_ < m.now.length) (hs : s.size = 64) (hwl : m.wait.length ≤ 100000) (hsm : m.now.length ≤ 100000) (hbase : base ≤ w.heap.size) (h : IsM w base a m) :
    Calls Tryz.prog 235 #[.pointer (some ⟨a.g, 0, none⟩), .int .i64 at_, .string s] w fun e w' => ∃ vw', e = .returned (.int .i64 0) ∧ IsM w' base { a with vw := vw' } (m.wrote at_ s) ∧ Upd a.F w { a with vw := vw' : MA }.F w' := by
  have H := Lib.hid h
  have hblk := h.blk
  obtain ⟨gn, c, en, ⟨u, hu⟩, hz, hset, hgr⟩ := mSetS h.now hat s
  obtain ⟨Aw, cw, ew, _, _⟩ := h.wait.reads
  have hgn : gn ≠ a.g := fun e => by
    have := h.now.ne_blk hblk (by decide)
    rw [en, e] at this
    exact this rfl
  rw [hd, en, ew] at hblk
  have hb1 := setc_off (i := at_) hblk hgn.symm (.string s)
  have x7 := blk_cell hblk 7
  have x5 := blk_cell hblk 5
  have x6 := blk_cell hb1 6
  have hn := nil65
  have hat' : (at_ : Int) < (m.now.length : Int) := by omega
  have hsz : (w.setCell ⟨gn, at_, none⟩ (.string s)).heap.size = w.heap.size := by
    obtain ⟨_, cs, h2⟩ := h.now.blk (k := gn) (by rw [en]; rfl)
    exact setc_size h2 _
  have hwne : a.vw.ownBlock ≠ some gn := fun e => by
    obtain ⟨_, cs, h2⟩ := h.now.blk (k := gn) (by rw [en]; rfl)
    exact h.wait.ne_blk h2 (by decide) e
  have HWt := Lib.hid (h.wait.set_off ⟨gn, at_, none⟩ hwne (.string s))
  have HB1 := Lib.hid (And.intro hb1 hsz)
  have HST := Lib.hid (And.intro hset hgr)
  obtain ⟨S, hS⟩ : ∃ S, S = IntKind.i64.wrap (m.wr + 1) := ⟨_, rfl⟩
  have HS := Lib.hid hS
  have HLN : Hid ((m.wait ++ [((at_ : Int), s)]).length = m.wait.length + 1) := Lib.hid (by simp)
  have HWN := Lib.hid (And.intro hwne hwl)
  have HEN := Lib.hid (And.intro en (And.intro ew (And.intro hd (And.intro hgn hbase))))
  rw [ew] at HWt
  clear hb1 hset hgr hblk h hS hwne hwl hd hgn en ew hbase hsz
  generalize m.now.length = n at *
  generalize hwn : m.wait.length = k at *
  have e1 : decide ((at_ : Int) < 0) = false := decide_eq_false (by omega)
  have e2 : decide (n ≤ at_) = false := decide_eq_false (by omega)
  go_enter Tryz.func235, Tryz.ntmps235
  go_wp2_with (first | (at_builtin; refine Enc.Row.append2 (K := KWt) (W := w.setCell ⟨gn, at_, none⟩ (.string s)) (base := base) HWt.out ((at_ : Int), s) rfl (.tmp 28) (.tmp 32) 145 rfl (.agg #[.int .i64 0, .string ⟨#[]⟩]) 24 Tryz.underlying145 info313 rfl (by decide) rfl (by rw [HB1.out.2]; rfl) (by rw [hwn]; have := HWN.out.2; omega) (by rw [HB1.out.2]; exact HEN.out.2.2.2.2) ?_; intro v3 w3 ho hg hwh; have hbk3 := (hg.block a.g (blk_lt HB1.out.1) (fun e => HWt.out.ne_blk HB1.out.1 (by decide) e.symm)).trans HB1.out.1; obtain ⟨A3, c3, rfl, _, _⟩ := ho.reads; rw [HLN.out] at ho hwh ⊢; have HO := Lib.hid (And.intro ho (And.intro hg hwh)); have q6 := blk_cell hbk3 6; have f6 := blk_frozen hbk3 6; have hbk4 := setc_blk (i := 6) hbk3 (.slice A3 (k + 1) c3); have hx := xAdd (a := ⟨a.g, 1, none⟩) (d := 1) (x := m.wr) (blk_cell hbk4 1) (blk_frozen hbk4 1); rw [← HS.out] at hx; have HB4 := Lib.hid hbk4; have HB3 := Lib.hid hbk3; clear ho hg hwh hbk3 hbk4) | go_in)
  go_ret
  have hb5 := setc_blk (i := 1) HB4.out (.int .i64 S)
  have h3w := HO.out.1
  have hne := h3w.ne_blk HB3.out (by decide)
  have rw5 := (h3w.set_off ⟨a.g, 6, none⟩ hne (.slice A3 (k + 1) c3)).set_off ⟨a.g, 1, none⟩ hne (.int .i64 S)
  have l1 := H.out.last.set_off ⟨gn, at_, none⟩ (fun e => H.out.two gn e (by unfold ownF; rw [HEN.out.1]; rfl)) (.string s)
  have n1 := HST.out.1
  have l3 := l1.grown_off HO.out.2.1 (l1.apart_ty HWt.out (by decide))
  have n3 := n1.grown_off HO.out.2.1 (n1.apart_ty HWt.out (by decide))
  have l5 := (l3.set_off ⟨a.g, 6, none⟩ (l3.ne_blk HB3.out (by decide)) (.slice A3 (k + 1) c3)).set_off ⟨a.g, 1, none⟩ (l3.ne_blk HB3.out (by decide)) (.int .i64 S)
  have n5 := (n3.set_off ⟨a.g, 6, none⟩ (n3.ne_blk HB3.out (by decide)) (.slice A3 (k + 1) c3)).set_off ⟨a.g, 1, none⟩ (n3.ne_blk HB3.out (by decide)) (.int .i64 S)
  refine ⟨.slice A3 (k + 1) c3, rfl, ⟨?_, l5, n5, rw5, H.out.two, by unfold MS.wrote; simp only [List.length_set]; exact H.out.len⟩, ?_⟩
  · rw [hb5]; unfold MS.wrote; simp only []; rw [← HS.out, HEN.out.1, HEN.out.2.2.1]; rfl
  · have u1 : Upd a.F w a.F (w.setCell ⟨gn, at_, none⟩ (.string s)) := Upd.of_set _ (.inr (.inr (.inl (by unfold ownF; rw [HEN.out.1]; rfl)))) _
    have u2 : Upd a.F (w.setCell ⟨gn, at_, none⟩ (.string s)) a.F w3 := Upd.of_grown HO.out.2.1 (fun k hk => .inr (.inr (.inr (by unfold ownF; rw [HEN.out.2.1]; exact hk))))
    have u3 : Upd a.F w3 a.F (w3.setCell ⟨a.g, 6, none⟩ (.slice A3 (k + 1) c3)) := Upd.of_set _ (.inl rfl) _
    have u4 : Upd a.F (w3.setCell ⟨a.g, 6, none⟩ (.slice A3 (k + 1) c3)) a.F ((w3.setCell ⟨a.g, 6, none⟩ (.slice A3 (k + 1) c3)).setCell ⟨a.g, 1, none⟩ (.int .i64 S)) := Upd.of_set _ (.inl rfl) _
    refine (u1.trans (u2.trans (u3.trans u4))).foot_of (fun j hj => ?_)
    rcases hj with hj | hj | hj | hj
    · exact .inl (.inl hj)
    · exact .inl (.inr (.inl hj))
    · exact .inl (.inr (.inr (.inl hj)))
    · rcases HO.out.2.2 with e | ⟨j', h1, h2⟩
      · exact .inl (.inr (.inr (.inr (by unfold ownF; rw [HEN.out.2.1, ← e]; exact hj))))
      · right
        have : j = j' := Option.some.inj (hj.symm.trans h2)
        rw [this]
        rw [HB1.out.2] at h1
        exact h1
end Go.Proofs.YtgpkpheejefiiaaGreatDoor
end
section
set_option linter.unusedVariables false
set_option linter.unusedSimpArgs false
namespace Go.Proofs.YtgpkpheejefiiaaGreatDoor
open Go.RowKit
theorem disable (w : World) : (callFunc 371 #[]).run Tryz.prog w = .ok (.value (.tuple #[])) w := run_call_mark0 Tryz.func371 (by kernel_rfl) (by kernel_rfl) (by kernel_rfl) .disable (by kernel_rfl) w
theorem enable (w : World) : (callFunc 373 #[]).run Tryz.prog w = .ok (.value (.tuple #[])) w := run_call_mark0 Tryz.func373 (by kernel_rfl) (by kernel_rfl) (by kernel_rfl) .enable (by kernel_rfl) w
theorem acquire (a : Addr) (w : World) : (callFunc 374 #[.pointer (some a)]).run Tryz.prog w = .ok (.value (.tuple #[])) w := run_call_marked Tryz.func374 (by kernel_rfl) (by kernel_rfl) (by kernel_rfl) .acquire (by kernel_rfl) a w
theorem releaseMerge (a : Addr) (w : World) : (callFunc 376 #[.pointer (some a)]).run Tryz.prog w = .ok (.value (.tuple #[])) w := run_call_marked Tryz.func376 (by kernel_rfl) (by kernel_rfl) (by kernel_rfl) .releaseMerge (by kernel_rfl) a w
set_option maxRecDepth 100000 in
set_option maxHeartbeats 1600000 in
theorem store_deferred (a : Addr) (x : Value) (u : FrameMode) (w : World) (hc : w.cell? a = some x) (hz : w.frozen? a = false) :
    CallsD Tryz.prog 55 #[.pointer (some a), .bool true] u w fun e u' w' => u' = u ∧ (e = .returned (.tuple #[]) ∧ w' = w.drew.setCell a (.int .u32 1)) := by
  have hc' : w.drew.cell? a = some x := by go_simp
  have hz' : w.drew.frozen? a = false := by go_simp
  have hst := xStore32 (x := 1) hc' hz'
  go_enter_d Tryz.func55, Tryz.ntmps55
  go_wp2
  go_region_calls
  all_goals (go_end0; exact ⟨rfl, rfl⟩)
set_option maxRecDepth 100000 in
set_option maxHeartbeats 1600000 in
theorem unlock_deferred (a : Addr) (u : FrameMode) (w : World) (hc : w.cell? a = some (.int .i32 1)) (hz : w.frozen? a = false) :
    CallsD Tryz.prog 349 #[.pointer (some a)] u w fun e u' w' => u' = u ∧ (e = .returned (.tuple #[]) ∧ w' = w.setCell a (.int .i32 0)) := by
  have hd := disable
  have he := enable
  have hr := releaseMerge
  have hadd := run_call_add (P := Tryz.prog) Tryz.func377 (by kernel_rfl) (by kernel_rfl) (by kernel_rfl) .i32 (by kernel_rfl) (y := -1) (s := 0) hc hz (by simp [go_sem]; rfl)
  have hcv := run_convert_to_unsafe (P := Tryz.prog) (src := 511) (dst := 490) Tryz.underlying511 Tryz.underlying490 (by kernel_rfl) hc
  go_enter_d Tryz.func349, Tryz.ntmps349
  go_wp2
  go_end0
  go_wp2
  go_end0
  exact ⟨rfl, rfl⟩
set_option maxRecDepth 100000 in
set_option maxHeartbeats 1600000 in
theorem lock_free (a : Addr) (w : World) (hc : w.cell? a = some (.int .i32 0)) (hz : w.frozen? a = false) :
    Calls Tryz.prog 348 #[.pointer (some a)] w fun e w' => e = .returned (.tuple #[]) ∧ w' = w.setCell a (.int .i32 1) := by
  have hd := disable
  have he := enable
  have ha := acquire
  have hcas := run_call_cas_hit (P := Tryz.prog) Tryz.func372 (by kernel_rfl) (by kernel_rfl) (by kernel_rfl) .i32 (by kernel_rfl) (y := 1) hc hz
  have hc' : (w.setCell a (.int .i32 1)).cell? a = some (.int .i32 1) := World.cell?_setCell_same w a _ hc
  have hcv := run_convert_to_unsafe (P := Tryz.prog) (src := 511) (dst := 490) Tryz.underlying511 Tryz.underlying490 (by kernel_rfl) hc'
  go_enter Tryz.func348, Tryz.ntmps348
  go_wp2
  first | go_end0 | (simp only [Exit.inBlock, Exit.then]; refine bodyPost_ret (results_none rfl _ _ _) rfl ?_) | refine bodyPost_ret (results_none rfl _ _ _) rfl ?_
  go_wp2
  go_end0
  exact ⟨rfl, rfl⟩
set_option maxRecDepth 100000 in
set_option maxHeartbeats 1600000 in
theorem slowL (b off : Nat) (fp : Value) (R : World → Prop) (w : World) (h0 : w.cell? ⟨b, off, none⟩ = some (.int .u32 0)) (h1 : w.cell? ⟨b, off + 1, none⟩ = some (.int .i32 0)) (f0 : w.frozen? ⟨b, off, none⟩ = false) (f1 : w.frozen? ⟨b, off + 1, none⟩ = false)
    (hF : Calls Tryz.prog 263 #[fp] (w.setCell ⟨b, off + 1, none⟩ (.int .i32 1)) fun e W' => e = .returned (.tuple #[]) ∧ R W')
    (hR : ∀ W', R W' → W'.cell? ⟨b, off, none⟩ = some (.int .u32 0) ∧ W'.cell? ⟨b, off + 1, none⟩ = some (.int .i32 1) ∧ W'.frozen? ⟨b, off, none⟩ = false ∧ W'.frozen? ⟨b, off + 1, none⟩ = false) :
    Calls Tryz.prog 312 #[.pointer (some ⟨b, off, none⟩), .func (.func 263) #[fp] #[]] w fun e w' => e = .returned (.tuple #[]) ∧ ∃ W', R W' ∧ w' = (W'.drew.setCell ⟨b, off, none⟩ (.int .u32 1)).setCell ⟨b, off + 1, none⟩ (.int .i32 0) := by
  have hl := xLoad32 (w := w.setCell ⟨b, off + 1, none⟩ (.int .i32 1)) (a := ⟨b, off, none⟩) (x := 0) ((World.cell?_setCell_other _ ⟨b, off + 1, none⟩ ⟨b, off, none⟩ _ (by simp)).trans h0)
  have hnot : ∀ (x : Bool) (w : World), (Op.unary .not (.bool x)).run Tryz.prog w = .ok (.bool (!x)) w := fun _ _ => rfl
  have HF := Lib.hid hF
  have HR := Lib.hid hR
  clear hF hR
  go_enter_defers Tryz.func312, Tryz.ntmps312
  go_wp2_with (first | (go_at_call 348; refine (lock_free ⟨b, off + 1, none⟩ _ h1 f1).mono ?_; rintro e w' ⟨rfl, rfl⟩) | (go_at_call 263; refine HF.out.mono ?_; rintro e W' ⟨rfl, hR'⟩) | go_in)
  obtain ⟨r0, r1, z0, z1⟩ := HR.out _ hR'
  have HR' := Lib.hid hR'
  refine leaves_cons (f := 55) (args := #[.pointer (some ⟨b, off, none⟩), .bool true]) (by simp) (by simp [go_sem]) ?_
  refine (store_deferred ⟨b, off, none⟩ (.int .u32 0) .returning _ r0 z0).mono ?_
  rintro e u' w'' ⟨rfl, rfl, rfl⟩
  refine leaves_cons (f := 349) (args := #[.pointer (some ⟨b, off + 1, none⟩)]) (by simp [settle]) (by simp [go_sem]) ?_
  refine (unlock_deferred ⟨b, off + 1, none⟩ _ _ ?_ (by simp [z1])).mono ?_
  · refine (World.cell?_setCell_other _ ⟨b, off, none⟩ ⟨b, off + 1, none⟩ _ (by simp)).trans ?_
    rw [World.cell?_drew]
    exact r1
  rintro e u' w'' ⟨rfl, rfl, rfl⟩
  simp [Leaves, settle, results, Tryz.results312]
  exact ⟨_, HR'.out, rfl⟩
set_option maxRecDepth 100000 in
set_option maxHeartbeats 1600000 in
theorem onceDoL (b off : Nat) (fp : Value) (R : World → Prop) (w : World) (h0 : w.cell? ⟨b, off, none⟩ = some (.int .u32 0)) (h1 : w.cell? ⟨b, off + 1, none⟩ = some (.int .i32 0)) (f0 : w.frozen? ⟨b, off, none⟩ = false) (f1 : w.frozen? ⟨b, off + 1, none⟩ = false)
    (hF : Calls Tryz.prog 263 #[fp] (w.setCell ⟨b, off + 1, none⟩ (.int .i32 1)) fun e W' => e = .returned (.tuple #[]) ∧ R W')
    (hR : ∀ W', R W' → W'.cell? ⟨b, off, none⟩ = some (.int .u32 0) ∧ W'.cell? ⟨b, off + 1, none⟩ = some (.int .i32 1) ∧ W'.frozen? ⟨b, off, none⟩ = false ∧ W'.frozen? ⟨b, off + 1, none⟩ = false) :
    Calls Tryz.prog 262 #[.pointer (some ⟨b, off, none⟩), .func (.func 263) #[fp] #[]] w fun e w' => e = .returned (.tuple #[]) ∧ ∃ W', R W' ∧ w' = (W'.drew.setCell ⟨b, off, none⟩ (.int .u32 1)).setCell ⟨b, off + 1, none⟩ (.int .i32 0) := by
  have hl := xLoad32 h0
  have hnot : ∀ (x : Bool) (w : World), (Op.unary .not (.bool x)).run Tryz.prog w = .ok (.bool (!x)) w := fun _ _ => rfl
  have K := Lib.hid (slowL b off fp R w h0 h1 f0 f1 hF hR)
  clear hF hR
  go_enter Tryz.func262, Tryz.ntmps262
  go_wp2_with (first | (go_at_call 312; refine K.out.mono ?_; rintro e w' ⟨rfl, hx⟩; have HX := Lib.hid hx; clear hx) | go_in)
  go_end0
  exact ⟨rfl, HX.out⟩
set_option maxRecDepth 100000 in
set_option maxHeartbeats 1600000 in
theorem slowG (b off : Nat) (fp : Value) (R : World → Prop) (w : World) (h0 : w.cell? ⟨b, off, none⟩ = some (.int .u32 0)) (h1 : w.cell? ⟨b, off + 1, none⟩ = some (.int .i32 0)) (f0 : w.frozen? ⟨b, off, none⟩ = false) (f1 : w.frozen? ⟨b, off + 1, none⟩ = false)
    (hF : Calls Tryz.prog 369 #[fp] (w.setCell ⟨b, off + 1, none⟩ (.int .i32 1)) fun e W' => e = .returned (.tuple #[]) ∧ R W')
    (hR : ∀ W', R W' → W'.cell? ⟨b, off, none⟩ = some (.int .u32 0) ∧ W'.cell? ⟨b, off + 1, none⟩ = some (.int .i32 1) ∧ W'.frozen? ⟨b, off, none⟩ = false ∧ W'.frozen? ⟨b, off + 1, none⟩ = false) :
    Calls Tryz.prog 312 #[.pointer (some ⟨b, off, none⟩), .func (.func 369) #[fp] #[]] w fun e w' => e = .returned (.tuple #[]) ∧ ∃ W', R W' ∧ w' = (W'.drew.setCell ⟨b, off, none⟩ (.int .u32 1)).setCell ⟨b, off + 1, none⟩ (.int .i32 0) := by
  have hl := xLoad32 (w := w.setCell ⟨b, off + 1, none⟩ (.int .i32 1)) (a := ⟨b, off, none⟩) (x := 0) ((World.cell?_setCell_other _ ⟨b, off + 1, none⟩ ⟨b, off, none⟩ _ (by simp)).trans h0)
  have hnot : ∀ (x : Bool) (w : World), (Op.unary .not (.bool x)).run Tryz.prog w = .ok (.bool (!x)) w := fun _ _ => rfl
  have HF := Lib.hid hF
  have HR := Lib.hid hR
  clear hF hR
  go_enter_defers Tryz.func312, Tryz.ntmps312
  go_wp2_with (first | (go_at_call 348; refine (lock_free ⟨b, off + 1, none⟩ _ h1 f1).mono ?_; rintro e w' ⟨rfl, rfl⟩) | (go_at_call 369; refine HF.out.mono ?_; rintro e W' ⟨rfl, hR'⟩) | go_in)
  obtain ⟨r0, r1, z0, z1⟩ := HR.out _ hR'
  have HR' := Lib.hid hR'
  refine leaves_cons (f := 55) (args := #[.pointer (some ⟨b, off, none⟩), .bool true]) (by simp) (by simp [go_sem]) ?_
  refine (store_deferred ⟨b, off, none⟩ (.int .u32 0) .returning _ r0 z0).mono ?_
  rintro e u' w'' ⟨rfl, rfl, rfl⟩
  refine leaves_cons (f := 349) (args := #[.pointer (some ⟨b, off + 1, none⟩)]) (by simp [settle]) (by simp [go_sem]) ?_
  refine (unlock_deferred ⟨b, off + 1, none⟩ _ _ ?_ (by simp [z1])).mono ?_
  · refine (World.cell?_setCell_other _ ⟨b, off, none⟩ ⟨b, off + 1, none⟩ _ (by simp)).trans ?_
    rw [World.cell?_drew]
    exact r1
  rintro e u' w'' ⟨rfl, rfl, rfl⟩
  simp [Leaves, settle, results, Tryz.results312]
  exact ⟨_, HR'.out, rfl⟩
set_option maxRecDepth 100000 in
set_option maxHeartbeats 1600000 in
theorem doG (b off : Nat) (fp : Value) (R : World → Prop) (w : World) (h0 : w.cell? ⟨b, off, none⟩ = some (.int .u32 0)) (h1 : w.cell? ⟨b, off + 1, none⟩ = some (.int .i32 0)) (f0 : w.frozen? ⟨b, off, none⟩ = false) (f1 : w.frozen? ⟨b, off + 1, none⟩ = false)
    (hF : Calls Tryz.prog 369 #[fp] (w.setCell ⟨b, off + 1, none⟩ (.int .i32 1)) fun e W' => e = .returned (.tuple #[]) ∧ R W')
    (hR : ∀ W', R W' → W'.cell? ⟨b, off, none⟩ = some (.int .u32 0) ∧ W'.cell? ⟨b, off + 1, none⟩ = some (.int .i32 1) ∧ W'.frozen? ⟨b, off, none⟩ = false ∧ W'.frozen? ⟨b, off + 1, none⟩ = false) :
    Calls Tryz.prog 262 #[.pointer (some ⟨b, off, none⟩), .func (.func 369) #[fp] #[]] w fun e w' => e = .returned (.tuple #[]) ∧ ∃ W', R W' ∧ w' = (W'.drew.setCell ⟨b, off, none⟩ (.int .u32 1)).setCell ⟨b, off + 1, none⟩ (.int .i32 0) := by
  have hl := xLoad32 h0
  have hnot : ∀ (x : Bool) (w : World), (Op.unary .not (.bool x)).run Tryz.prog w = .ok (.bool (!x)) w := fun _ _ => rfl
  have K := Lib.hid (slowG b off fp R w h0 h1 f0 f1 hF hR)
  clear hF hR
  go_enter Tryz.func262, Tryz.ntmps262
  go_wp2_with (first | (go_at_call 312; refine K.out.mono ?_; rintro e w' ⟨rfl, hx⟩; have HX := Lib.hid hx; clear hx) | go_in)
  go_end0
  exact ⟨rfl, HX.out⟩
end Go.Proofs.YtgpkpheejefiiaaGreatDoor
end
section
set_option linter.unusedVariables false
set_option linter.unusedSimpArgs false
namespace Go.Proofs.YtgpkpheejefiiaaGreatDoor
open Go.RowKit
def headF (n : Int) : Int := (4 * n + 79) / 64
set_option maxRecDepth 100000 in
set_option maxHeartbeats 1600000 in
theorem headB (n : Int) (h0 : 0 ≤ n) (h1 : n ≤ 96) (w : World) : Calls Tryz.prog 334 #[.int .i64 n] w fun e w' => e = .returned (.int .i64 (headF n)) ∧ Bel w w' := by
  have e1 : decide (n < 0) = false := decide_eq_false (by omega)
  have e2 : decide (n > 96) = false := decide_eq_false (by omega)
  have e3 : decide (96 < n) = false := decide_eq_false (by omega)
  have hr : Hid (headF n = headF n) := Lib.hid rfl
  go_enter Tryz.func334, Tryz.ntmps334
  go_wp2
  go_ret
  exact ⟨by unfold headF; rw [show 16 + 4 * n + 64 - 1 = 4 * n + 79 by omega]; rfl, Bel.refl _⟩
set_option maxRecDepth 100000 in
set_option maxHeartbeats 1600000 in
theorem needB (n : Int) (h0 : 0 ≤ n) (h1 : n ≤ 96) (w : World) : Calls Tryz.prog 313 #[.int .i64 n] w fun e w' => e = .returned (.int .i64 (headF n + n)) ∧ Bel w w' := by
  have K := Lib.hid (headB n h0 h1)
  have hh : 1 ≤ headF n ∧ headF n ≤ 10 := by unfold headF; omega
  generalize headF n = h at *
  have e1 : decide (h = 0) = false := decide_eq_false (by omega)
  have e2 : (h == 0) = false := beq_false_of_ne (by omega)
  go_enter Tryz.func313, Tryz.ntmps313
  go_wp2_with (go_at_call 334; refine (K.out _).mono ?_; rintro e w1 ⟨rfl, hb⟩; have HB := Lib.hid hb; clear hb)
  go_ret
  exact ⟨rfl, HB.out⟩
set_option maxRecDepth 100000 in
set_option maxHeartbeats 4000000 in
theorem reckonR (w0 : World) (b : Nat) (m0 : Int) (w : World) (hb : w.heap[b]? = some (.cells #[.int .u32 0, .int .i32 1, .int .u32 0, .int .i64 m0] 357 (0, 0))) (hbel : Bel w0 w) (hb0 : w0.heap.size ≤ b) :
    Calls Tryz.prog 263 #[.pointer (some ⟨b, 0, none⟩)] w fun e w' => e = .returned (.tuple #[]) ∧ w'.heap[b]? = some (.cells #[.int .u32 0, .int .i32 1, .int .u32 0, .int .i64 44] 357 (0, 0)) ∧ Bel w0 w' := by
  have K := Lib.hid needB
  have HX0 : Hid (∃ m : Int, w.heap[b]? = some (.cells #[.int .u32 0, .int .i32 1, .int .u32 0, .int .i64 m] 357 (0, 0)) ∧ (44 < (0 : Int) → m = 44) ∧ Bel w0 w) := Lib.hid ⟨m0, hb, fun h => by omega, hbel⟩
  clear hb hbel
  go_enter Tryz.func263, Tryz.ntmps263
  go_wp2_with fail
  go_loopw [2, 3] (fun v2 v3 wr => ∃ n : Int, v3 = .int .i64 n ∧ 0 ≤ n ∧ n ≤ 48 ∧ Hid (∃ m : Int, wr.heap[b]? = some (.cells #[.int .u32 0, .int .i32 1, .int .u32 0, .int .i64 m] 357 (0, 0)) ∧ (44 < n → m = 44) ∧ Bel w0 wr)) (fun _ v3 _ => (48 - intOf v3).toNat)
  case atStart => exact ⟨0, rfl, by omega, by omega, HX0⟩
  case round =>
    obtain ⟨wo, rfl⟩ : ∃ wo : World, wo = wr := ⟨_, rfl⟩
    obtain ⟨n, rfl, h1, h2, HI⟩ := hrel
    clear HX0
    by_cases hn : n < 48
    · have e0 : decide (n < 48) = true := decide_eq_true hn
      have Kx := Lib.hid (K.out n h1 (by omega))
      by_cases h44 : n ≤ 44
      · have e1 : decide (headF n + n ≤ 48) = true := decide_eq_true (by unfold headF; omega)
        go_wp2_with (go_at_call 313; refine (Kx.out _).mono ?_; rintro e w1 ⟨rfl, hb1⟩; obtain ⟨m, q1, _, q3⟩ := HI.out; have q4 := blk_below q1 hb1; have c3 := blk_cell q4 3; have f3 := blk_frozen q4 3; have HQ := Lib.hid (And.intro q4 (q3.trans hb1)); clear hb1 q1 q3 q4)
        have hs := setc_blk (i := 3) HQ.out.1 (.int .i64 n)
        have hbl := Upd.below HQ.out.2 (Upd.of_set (F := fun k => k = b) ⟨b, 3, none⟩ rfl (.int .i64 n)) (fun k hk => by rw [hk]; exact hb0)
        exact ⟨⟨n + 1, rfl, by omega, by omega, Lib.hid ⟨n, hs, fun h => by omega, hbl⟩⟩, by simp [intOf]; omega⟩
      · have e1 : decide (headF n + n ≤ 48) = false := decide_eq_false (by unfold headF; omega)
        go_wp2_with (go_at_call 313; refine (Kx.out _).mono ?_; rintro e w1 ⟨rfl, hb1⟩; obtain ⟨m, q1, q2, q3⟩ := HI.out; have HQ := Lib.hid (And.intro (blk_below q1 hb1) (And.intro q2 (q3.trans hb1))); clear hb1 q1 q2 q3)
        exact ⟨⟨n + 1, rfl, by omega, by omega, Lib.hid ⟨_, HQ.out.1, fun _ => HQ.out.2.1 (by omega), HQ.out.2.2⟩⟩, by simp [intOf]; omega⟩
    · have e0 : decide (n < 48) = false := decide_eq_false hn
      obtain ⟨m, q1, q2, q3⟩ := HI.out
      have hm := q2 (by omega)
      subst hm
      have HQ := Lib.hid (And.intro q1 q3)
      clear q1 q2 q3 HI
      go_wp2_with fail
      go_end0
      exact ⟨rfl, HQ.out.1, HQ.out.2⟩
set_option maxRecDepth 100000 in
set_option maxHeartbeats 4000000 in
/-- How many writes a batch may have. -/
theorem mostB (w : World) : Calls Tryz.prog 156 #[] w fun e w' => e = .returned (.int .i64 44) ∧ Bel w w' := by
  have hmf : ∀ (fn : Fn) (first cap : Array Value) (w : World), (Instr.makeFunc fn first cap).run Tryz.prog w = .ok (.func fn first cap) w := fun _ _ _ _ => rfl
  have hb := heap_alloc_new w (.cells #[.int .u32 0, .int .i32 0, .int .u32 0, .int .i64 0] 357 (0, 0))
  have hb1 := setc_blk (i := 1) hb (.int .i32 1)
  have hbl1 := Upd.below (Bel.alloc w (.cells #[.int .u32 0, .int .i32 0, .int .u32 0, .int .i64 0] 357 (0, 0))) (Upd.of_set (F := fun k => k = w.heap.size) ⟨w.heap.size, 1, none⟩ rfl (.int .i32 1)) (fun k hk => by omega)
  have KD := Lib.hid (onceDoL w.heap.size 0 (.pointer (some ⟨w.heap.size, 0, none⟩)) (fun W' => W'.heap[w.heap.size]? = some (.cells #[.int .u32 0, .int .i32 1, .int .u32 0, .int .i64 44] 357 (0, 0)) ∧ Bel w W') (w.alloc (.cells #[.int .u32 0, .int .i32 0, .int .u32 0, .int .i64 0] 357 (0, 0))) (blk_cell hb 0) (blk_cell hb 1) (blk_frozen hb 0) (blk_frozen hb 1)
    ((reckonR w w.heap.size 0 _ hb1 hbl1 (Nat.le_refl _)).mono fun e w' h => h) (fun W' h => ⟨blk_cell h.1 0, blk_cell h.1 1, blk_frozen h.1 0, blk_frozen h.1 1⟩))
  clear hb hb1 hbl1
  go_enter Tryz.func156, Tryz.ntmps156
  go_wp2_with (first | (go_at_call 262; refine KD.out.mono ?_; rintro e w' ⟨rfl, W', ⟨r1, r2⟩, rfl⟩; have s1 := setc_blk (i := 0) r1 (.int .u32 1); have s2 := setc_blk (i := 1) s1 (.int .i32 0); have c3 := blk_cell s2 3; have HR := Lib.hid (And.intro r1 r2); clear r1 r2 s1 s2) | go_in)
  go_ret
  have u := Upd.below HR.out.2 ((Upd.of_set (F := fun k => k = w.heap.size) ⟨w.heap.size, 0, none⟩ rfl (.int .u32 1)).trans (Upd.of_set (F := fun k => k = w.heap.size) ⟨w.heap.size, 1, none⟩ rfl (.int .i32 0))) (fun k hk => by omega)
  exact ⟨rfl, u.trans (Bel.drew _)⟩
end Go.Proofs.YtgpkpheejefiiaaGreatDoor
end
