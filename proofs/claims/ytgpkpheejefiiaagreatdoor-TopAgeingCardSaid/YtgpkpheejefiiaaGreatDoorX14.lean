/- Known functions: the cache opens a stripe. -/
import Derived.Test.YtgpkpheejefiiaaGreatDoorX10
import Derived.Test.YtgpkpheejefiiaaGreatDoorX13
set_option linter.unusedVariables false
set_option linter.unusedSimpArgs false
namespace Go.Proofs.YtgpkpheejefiiaaGreatDoor
open Go.RowKit
set_option maxHeartbeats 4000000 in
set_option maxRecDepth 100000 in
theorem openOld (w : World) (bc bm0 : Nat) (vt0 : Value) (da0 st co : Int) (tx : ByteArray) (hc0 : w.heap[bc]? = some (.cells #[vt0, .int .i64 da0, .map (some bm0)] 197 (0, 0))) (h0 : 0 ≤ st) (h1 : st < 64) (h2 : 0 ≤ co) (h3 : co < da0) (htx : tx.size = 64) (X : Addr → World → Prop)
    (h102 : Calls Tryz.prog 102 #[.pointer (some ⟨bc, 0, none⟩), .int .i64 st] w fun e w1 => ∃ p vt y z, e = .returned (.pointer (some p)) ∧ w1.heap[bc]? = some (.cells #[vt, y, z] 197 (0, 0)) ∧
      Calls Tryz.prog 150 #[vt, .int .i64 st] w1 fun e w3 => (∃ v, e = .returned v) ∧ X p w3) :
    Calls Tryz.prog 90 #[.pointer (some ⟨bc, 0, none⟩), .int .i64 st, .int .i64 co, .string tx] w fun e W' => ∃ p, e = .returned (.tuple #[.pointer (some p), .int .i64 0]) ∧ X p W' := by
  have H102 := Lib.hid h102
  have hn : ∀ (w : World) (p : Option Addr), (binOp .eql 92 (.pointer p) (.pointer none)).run Tryz.prog w = .ok (.bool p.isNone) w := fun w p => run_eql_pointer_nil (P := Tryz.prog) w 92 p Tryz.underlying92
  have hn2 : ∀ (w : World) (p : Option Addr), (binOp .neq 185 (.pointer p) (.pointer none)).run Tryz.prog w = .ok (.bool !p.isNone) w := fun w p => run_neq_pointer_nil (P := Tryz.prog) w 185 p Tryz.underlying185
  have c1 := blk_cell hc0 1
  clear h102
  have d1 : decide (st < 0) = false := decide_eq_false (by omega)
  have d2 : decide (st ≥ 64) = false := decide_eq_false (by omega)
  have d2' : decide (64 ≤ st) = false := decide_eq_false (by omega)
  have d3 : decide (co < 0) = false := decide_eq_false (by omega)
  have d4 : decide (co ≥ da0) = false := decide_eq_false (by omega)
  have d4' : decide (da0 ≤ co) = false := decide_eq_false (by omega)
  go_enter Tryz.func90, Tryz.ntmps90
  go_wp2_with fail
  refine H102.out.mono ?_
  rintro e w1 ⟨p, vt, y, z, rfl, hc2, k150⟩
  have K150 := Lib.hid k150
  have c0 := blk_cell hc2 0
  clear k150 H102 c1 hc0
  go_wp2_with fail
  refine K150.out.mono ?_
  rintro e w3 ⟨⟨v, rfl⟩, hX⟩
  have HX := Lib.hid hX
  clear hX K150 c0 hc2
  go_wp2_with fail
  go_ret2
  exact ⟨p, rfl, HX.out⟩
section
variable {v : SV} {S' : Tr} {nx' : Nat}
theorem v3 {o : Option SO} {t0 : Nat} {k : SV → SV → SV → VO} (h : on3 o t0 k = .val v S' nx') : ∃ x y z, o = some (.cells [x, y, z] t0) ∧ k x y z = .val v S' nx' := by
  unfold on3 at h
  split at h
  · rename_i x y z t
    obtain ⟨h1, h2⟩ := vbI h
    exact ⟨x, y, z, by rw [Nat.eq_of_beq_eq_true h1], h2⟩
  · simp at h
end
theorem Sim.cells3 {r : Pl} {S : Tr} {nx : Nat} {w : World} (hs : Sim r S nx w) {g b c : Nat} {x y z : SV} {t : TypeId} (hg : atT S g = some (.cells [x, y, z] t)) (hr : r g = some (b, c)) :
    ∃ u1 u2 u3, w.heap[b]? = some (.cells #[u1, u2, u3] t (0, 0)) ∧ Emb r x u1 ∧ Emb r y u2 ∧ Emb r z u3 := by
  obtain ⟨b', c', yy, k1, k2, k3⟩ := hs.obj g _ hg
  rw [hr] at k1
  obtain ⟨rfl, rfl⟩ : b = b' ∧ c = c' := by simpa using k1
  cases k3 with
  | cells _ _ _ u hu =>
    obtain ⟨u1, u2, u3, rfl, h1, h2, h3⟩ := hu.three3
    exact ⟨u1, u2, u3, k2, h1, h2, h3⟩
theorem Sim.laid {r : Pl} {S : Tr} {nx : Nat} {w3 wx : World} {d g1 g2 ge : Nat} (hs : Sim r S nx w3) (hL : Laid3 w3 wx d g1 g2 ge) :
    ∃ r', r.le r' ∧ Sim r' (updT (updT (updT S nx (some (.cells (repS d [.str []]) 9))) (Nat.succ nx) (some (.cells (repS d [.str []]) 9))) (Nat.succ (Nat.succ nx)) (some (.cells (entryS nx (Nat.succ nx) d) 191))) (Nat.succ (Nat.succ (Nat.succ nx))) wx ∧
      r' (Nat.succ (Nat.succ nx)) = some (ge, 0) ∧ ∀ k, feet r' k → feet r k ∨ w3.heap.size ≤ k := by
  have hf : ∀ k, feet r k → k < w3.heap.size := fun k ⟨g, c, e⟩ => (hs.dom g k c e).1
  have hs0 := hs.bel hL.bel
  have hz : ∀ r : Pl, EmbL r (repS d [.str []]) (madeCells #[.string ⟨#[]⟩] d).toList := fun r => by
    have h := zerosS_ok (r := r) (z := [.str []]) (v := #[.string ⟨#[]⟩]) (.cons _ _ _ _ (.str [] (by simp)) .nil) d (by simp)
    have e : d * [SV.str []].length = d := Nat.mul_one d
    rw [e] at h
    exact h
  have ho : ∀ r : Pl, ObjR r (.cells (repS d [.str []]) 9) 0 (.cells (madeCells #[.string ⟨#[]⟩] d) 9 (0, 0)) := fun r => by
    have := ObjR.cells (r := r) _ 9 0 _ (hz r)
    simpa using this
  have s1 := hs0.adopt (b := g1) (c := 0) hL.h1 (fun e => by have := hf _ e; have := hL.l1; omega) (ho _)
  have f1 : ∀ k, feet (r.new nx g1 0) k → feet r k ∨ k = g1 := fun k ⟨g, c, e⟩ => by
    simp only [Pl.new] at e
    split at e
    · simp at e; exact .inr e.1.symm
    · exact .inl ⟨g, c, e⟩
  have s2 := s1.adopt (b := g2) (c := 0) hL.h2 (fun e => by
    rcases f1 _ e with e | e
    · have := hf _ e; have := hL.l2; omega
    · exact hL.n12 e.symm) (ho _)
  have f2 : ∀ k, feet ((r.new nx g1 0).new (nx + 1) g2 0) k → feet r k ∨ k = g1 ∨ k = g2 := fun k ⟨g, c, e⟩ => by
    simp only [Pl.new] at e
    split at e
    · simp at e; exact .inr (.inr e.1.symm)
    · rcases f1 k ⟨g, c, e⟩ with e | e
      · exact .inl e
      · exact .inr (.inl e)
  have hn1 : ((r.new nx g1 0).new (nx + 1) g2 0) nx = some (g1, 0) := by simp [Pl.new]
  have hn2 : ((r.new nx g1 0).new (nx + 1) g2 0) (nx + 1) = some (g2, 0) := by simp [Pl.new]
  have h3 : ObjR (((r.new nx g1 0).new (nx + 1) g2 0).new (nx + 1 + 1) ge 0) (.cells (entryS nx (Nat.succ nx) d) 191) 0 (.cells #[.int .u64 0, .int .u64 0, .int .u64 0, .int .u64 0, .slice (some ⟨g1, 0, none⟩) d d, .int .u64 0, .int .u64 0, .int .u64 0, .int .u64 0, .slice (some ⟨g2, 0, none⟩) d d, .int .u64 0, .int .u64 0, .int .u64 0, .int .u64 0] 191 (0, 0)) := by
    have hle := s2.le_new ge 0
    have i : ∀ r : Pl, Emb r (.int .u64 0) (.int .u64 0) := fun r => .int _ _
    have q1 : Emb (((r.new nx g1 0).new (nx + 1) g2 0).new (nx + 1 + 1) ge 0) (.slice nx 0 d d) (.slice (some ⟨g1, 0, none⟩) d d) := .slice _ _ _ _ _ 0 (hle _ _ hn1) (Nat.le_refl _)
    have q2 : Emb (((r.new nx g1 0).new (nx + 1) g2 0).new (nx + 1 + 1) ge 0) (.slice (Nat.succ nx) 0 d d) (.slice (some ⟨g2, 0, none⟩) d d) := .slice _ _ _ _ _ 0 (hle _ _ hn2) (Nat.le_refl _)
    exact ObjR.cells _ 191 0 [_, _, _, _, _, _, _, _, _, _, _, _, _, _] (.cons _ _ _ _ (i _) (.cons _ _ _ _ (i _) (.cons _ _ _ _ (i _) (.cons _ _ _ _ (i _) (.cons _ _ _ _ q1 (.cons _ _ _ _ (i _) (.cons _ _ _ _ (i _) (.cons _ _ _ _ (i _) (.cons _ _ _ _ (i _) (.cons _ _ _ _ q2 (.cons _ _ _ _ (i _) (.cons _ _ _ _ (i _) (.cons _ _ _ _ (i _) (.cons _ _ _ _ (i _) .nil))))))))))))))
  have s3 := s2.adopt (b := ge) (c := 0) hL.he (fun e => by
    rcases f2 _ e with e | e | e
    · have := hf _ e; have := hL.le; omega
    · exact hL.n1e e.symm
    · exact hL.n2e e.symm) h3
  refine ⟨_, Pl.le_trans (hs0.le_new g1 0) (Pl.le_trans (s1.le_new g2 0) (s2.le_new ge 0)), s3, Pl.new_self _ _ _ _, fun k ⟨g, c, e⟩ => ?_⟩
  simp only [Pl.new] at e
  split at e
  · simp at e; have := hL.le; right; omega
  · rcases f2 k ⟨g, c, e⟩ with e | e | e
    · exact .inl e
    · have := hL.l1; right; omega
    · have := hL.l2; right; omega
theorem EmbL.four4 {r : Pl} {x y z t : SV} {u : List Value} (h : EmbL r [x, y, z, t] u) : ∃ a b c d, u = [a, b, c, d] ∧ Emb r x a ∧ Emb r y b ∧ Emb r z c ∧ Emb r t d := by
  cases h with | cons _ v _ _ h k => obtain ⟨a, b, c, rfl, h1, h2, h3⟩ := k.three3; exact ⟨v, a, b, c, rfl, h, h1, h2, h3⟩
theorem mapUpd_sim {r : Pl} {S : Tr} {nx : Nat} {w : World} (hs : Sim r S nx w) {h b c : Nat} (hr : r h = some (b, c)) {es : List (Int × SV)} (hm : mapAt S h = some es) {st : Int} {s : SV} {v : Value} (hv : Emb r s v) (ho : s.one = true) :
    ∃ W', (Instr.mapUpdate 195 (.map (some b)) (.int .i64 st) v).run Tryz.prog w = .ok () W' ∧ ∃ r', r.le r' ∧ Sim r' (updT S h (some (.map (putM es st s)))) nx W' ∧ Upd (feet r) w (feet r') W' := by
  have K := updV_ok (P := Tryz.prog) tabZ_ok hs (ty := 195) (by kernel_rfl) (.map h b c hr) (.int .i64 st) hv (m := Instr.mapUpdate 195 (.map (some b)) (.int .i64 st) v >>= fun _ => pure Next.skip) (fun w' hrun => by simp [hrun])
  have e : updV (.map h) (.int .i64 st) s S nx = .heap .undef (updT S h (some (.map (putM es st s)))) nx := by
    show bI (aB (kEq .i64 .i64) s.one) (rB (mapAt S h) 7 fun es => .heap .undef (updT S h (some (.map (putM es st s)))) nx) (.stuck 8) = _
    rw [ho, hm]
    rfl
  rw [e] at K
  obtain ⟨r', v', w', k1, k2, k3, k4, k5⟩ := K
  have k5 : (Instr.mapUpdate 195 (.map (some b)) (.int .i64 st) v >>= fun _ => pure Next.skip).run Tryz.prog w = .ok .skip w' := by
    rcases k5 with k5 | ⟨_, k5⟩
    · simp only [Sem.run_bind] at k5
      generalize (Instr.mapUpdate 195 (.map (some b)) (.int .i64 st) v).run Tryz.prog w = q at k5
      cases q <;> simp [Result.andThen] at k5
    · exact k5
  refine ⟨w', ?_, r', k1, k2, k4⟩
  simp only [Sem.run_bind] at k5
  generalize (Instr.mapUpdate 195 (.map (some b)) (.int .i64 st) v).run Tryz.prog w = q at k5 ⊢
  cases q with
  | ok u w2 => simp [Result.andThen] at k5; subst k5; rfl
  | halt x w2 => simp [Result.andThen] at k5
theorem kn90 : KnOK 90 kOpen := by
  intro cb hcb args S nx s S' nx' h r w args' hs hG ha
  match args, h, ha with
  | [c, t, u, sx], h, ha =>
    obtain ⟨g, o, ec, h1⟩ := vPtr h
    obtain ⟨x0, dv, mv, q1, h2⟩ := v3 h1
    obtain ⟨kd, da, ed, h3⟩ := vInt h2
    obtain ⟨mg, em, h4⟩ := vMap h3
    obtain ⟨kt, st, et, h5⟩ := vInt h4
    obtain ⟨ku, co, eu, h6⟩ := vInt h5
    obtain ⟨tx, es, h7⟩ := vStr h6
    obtain ⟨hc, h8⟩ := vbI h7
    obtain ⟨hA, hB⟩ := aB_true hc
    obtain ⟨hA1, hA2⟩ := aB_true hA
    obtain ⟨hA3, hA4⟩ := aB_true hA2
    obtain ⟨hA5, hA6⟩ := aB_true hA4
    obtain ⟨hB1, hB2⟩ := aB_true hB
    obtain ⟨hB3, hB4⟩ := aB_true hB1
    obtain ⟨hB5, hB6⟩ := aB_true hB4
    have e1 : o = 0 := Nat.eq_of_beq_eq_true hA1
    have e2 := kEq_true hA3
    have e3 := kEq_true hA5
    have e4 := kEq_true hA6
    have hst := inI_true hB3
    rw [leI_eq] at hB5
    rw [ltI_eq] at hB6
    have hco0 : 0 ≤ co := of_decide_eq_true hB5
    have hco1 : co < da := of_decide_eq_true hB6
    have htx : lenN tx = 64 := Nat.eq_of_beq_eq_true hB2
    rw [lenN_eq] at htx
    subst ec; subst ed; subst em; subst et; subst eu; subst es; subst e1; subst e2; subst e3; subst e4
    obtain ⟨x, S0, n0, e5, h9⟩ := vVO h8
    obtain ⟨v0, v1, v2, v3', rfl, a0, a1, a2, a3⟩ := ha.four4
    have a1' := a1.int_inv
    have a2' := a2.int_inv
    obtain ⟨a3', hxv⟩ := a3.str_inv
    obtain ⟨b, cc, hr, a0'⟩ := a0.ptr_inv
    subst a1'; subst a2'; subst a3'; subst a0'
    obtain ⟨u1, u2, u3, k1, k2, k3, k4⟩ := hs.cells3 q1 hr
    have k3' := k3.int_inv
    obtain ⟨bm, cm, hrm, k4'⟩ := k4.map_inv
    subst k3'; subst k4'
    have hsz : (bytesOf tx).size = 64 := by rw [bytesOf_size]; exact htx
    have hE := enter_run (f := 90) (by kernel_rfl) #[.pointer (some ⟨b, 0, none⟩), .int .i64 st, .int .i64 co, .string (bytesOf tx)] w
    have K102 := (hcb 102 _ S nx x S0 n0 e5 r w [.pointer (some ⟨b, 0, none⟩), .int .i64 st] hs hG (.cons _ _ _ _ a0 (.cons _ _ _ _ a1 .nil))).calls (enter_run (by kernel_rfl) _ _)
    rw [bI_eq] at h9
    split at h9
    · rename_i hnil
      have hx := isNilp_ok hnil
      subst hx
      obtain ⟨s1, S1, n1, e6, h10⟩ := vVO h9
      obtain ⟨k, ee, es1, h11⟩ := vInt h10
      obtain ⟨hc1, h12⟩ := vbI h11
      obtain ⟨hc2, hc3⟩ := aB_true hc1
      have hk := kEq_true hc2
      rw [eqI_eq] at hc3
      have hee : ee = 0 := by simpa using hc3
      subst es1; subst hk; subst hee
      obtain ⟨vt, y1, z1, q2, h13⟩ := v3 h12
      obtain ⟨s2, S2, n2, e7, h14⟩ := vVO h13
      obtain ⟨y2, dv2, mv2, q3, h15⟩ := v3 h14
      obtain ⟨k2', d, ed2, h16⟩ := vInt h15
      obtain ⟨mh, em2, h17⟩ := vMap h16
      obtain ⟨hc4, h18⟩ := vbI h17
      obtain ⟨hc5, hc6⟩ := aB_true hc4
      have hk2 := kEq_true hc5
      have hd := inI_true hc6
      subst ed2; subst em2; subst hk2
      obtain ⟨dn, rfl⟩ : ∃ dn : Nat, d = dn := ⟨d.toNat, by omega⟩
      rw [Int.toNat_natCast] at h18
      obtain ⟨es, q4, h19⟩ := vvB h18
      obtain ⟨x1, x2, x3⟩ := vVal h19
      have K := openNew w b bm u1 da st co (bytesOf tx) k1 hst.1 (by omega) hco0 hco1 hsz (fun W' ge => ∃ r', r.le r' ∧ Sim r' S' nx' W' ∧ r' (Nat.succ (Nat.succ n2)) = some (ge, 0) ∧ Upd (feet r) w (feet r') W') ?_
      · refine .inr ⟨hE, K.mono ?_⟩
        rintro e W' ⟨ge, rfl, r', z1, z2, z3, z4⟩
        refine ⟨r', _, rfl, z1, z2, ?_, z4⟩
        rw [← x1]
        exact .tup _ _ (.cons _ _ _ _ (.ptr _ 0 ge 0 z3) (.cons _ _ _ _ (.int _ _) .nil))
      · refine K102.mono ?_
        rintro e w1 ⟨r1, v, rfl, l1, m1, n1', o1⟩
        have : v = .pointer none := by cases n1'; rfl
        subst this
        refine ⟨rfl, ?_⟩
        refine ((hcb 151 _ S0 n0 _ S1 n1 e6 r1 w1 [.pointer (some ⟨b, 0, none⟩)] m1 (hG.up l1) (.cons _ _ _ _ (a0.up l1) .nil)).calls (enter_run (by kernel_rfl) _ _)).mono ?_
        rintro e w2 ⟨r2, v, rfl, l2, m2, n2', o2⟩
        obtain rfl := n2'.int_inv
        obtain ⟨t1, t2, t3, p1, p2, p3, p4⟩ := m2.cells3 q2 (l2 _ _ (l1 _ _ hr))
        refine ⟨rfl, t1, t2, t3, p1, ?_⟩
        refine ((hcb 152 _ S1 n1 _ S2 n2 e7 r2 w2 [t1, .int .i64 st] m2 ((hG.up l1).up l2) (.cons _ _ _ _ p2 (.cons _ _ _ _ (.int _ _) .nil))).calls (enter_run (by kernel_rfl) _ _)).mono ?_
        rintro e w3 ⟨r3, v, rfl, l3, m3, n3', o3⟩
        obtain ⟨f1, f2, f3, j1, j2, j3, j4⟩ := m3.cells3 q3 (l3 _ _ (l2 _ _ (l1 _ _ hr)))
        have j3' := j3.int_inv
        obtain ⟨bm3, cm3, hrm3, j4'⟩ := j4.map_inv
        subst j3'; subst j4'
        refine ⟨⟨v, rfl⟩, f1, dn, bm3, j1, by omega, fun wx g1 g2 ge hL => ?_⟩
        obtain ⟨r4, l4, m4, z4, ft⟩ := m3.laid hL
        obtain ⟨W', y1, r5, l5, m5, o5⟩ := mapUpd_sim m4 (l4 _ _ hrm3) q4 (st := st) (s := .ptr (Nat.succ (Nat.succ n2)) 0) (.ptr _ 0 ge 0 z4) rfl
        refine ⟨W', y1, r5, Pl.le_trans l1 (Pl.le_trans l2 (Pl.le_trans l3 (Pl.le_trans l4 l5))), by rw [← x2, ← x3]; exact m5, l5 _ _ z4, ?_⟩
        exact o1.trans (o2.trans (o3.trans (((Upd.of_bel hL.bel).foot_of ft).trans o5)))
    · obtain ⟨gp, op, ep, h10⟩ := vPtr h9
      subst ep
      obtain ⟨vt, y1, z1, q2, h11⟩ := v3 h10
      obtain ⟨s1, S1, n1, e6, h12⟩ := vVO h11
      obtain ⟨x1, x2, x3⟩ := vVal h12
      have K := openOld w b bm u1 da st co (bytesOf tx) k1 hst.1 (by omega) hco0 hco1 hsz (fun p W' => ∃ r', r.le r' ∧ Sim r' S1 n1 W' ∧ Emb r' (.ptr gp op) (.pointer (some p)) ∧ Upd (feet r) w (feet r') W') ?_
      · refine .inr ⟨hE, K.mono ?_⟩
        rintro e W' ⟨p, rfl, r', z1, z2, z3, z4⟩
        refine ⟨r', _, rfl, z1, by rw [← x2, ← x3]; exact z2, ?_, z4⟩
        rw [← x1]
        exact .tup _ _ (.cons _ _ _ _ z3 (.cons _ _ _ _ (.int _ _) .nil))
      · refine K102.mono ?_
        rintro e w1 ⟨r1, v, rfl, l1, m1, n1', o1⟩
        obtain ⟨bp, cp, hrp, rfl⟩ := n1'.ptr_inv
        obtain ⟨t1, t2, t3, p1, p2, p3, p4⟩ := m1.cells3 q2 (l1 _ _ hr)
        refine ⟨_, t1, t2, t3, rfl, p1, ?_⟩
        refine ((hcb 150 _ S0 n0 _ S1 n1 e6 r1 w1 [t1, .int .i64 st] m1 (hG.up l1) (.cons _ _ _ _ p2 (.cons _ _ _ _ (.int _ _) .nil))).calls (enter_run (by kernel_rfl) _ _)).mono ?_
        rintro e w2 ⟨r2, v, rfl, l2, m2, n2', o2⟩
        exact ⟨⟨v, rfl⟩, r2, Pl.le_trans l1 l2, m2, n1'.up l2, o1.trans o2⟩
end Go.Proofs.YtgpkpheejefiiaaGreatDoor
