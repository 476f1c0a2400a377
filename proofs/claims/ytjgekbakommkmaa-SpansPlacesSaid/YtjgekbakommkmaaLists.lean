/- Spans: the walk of lists. -/
import Derived.Test.YtjgekbakommkmaaRef
import Derived.Lib.MinMax
set_option linter.unusedVariables false
set_option linter.unusedSimpArgs false
namespace Go.Proofs.Ytjgekbakommkmaa
open Go.RowKit Go.Proofs.YtjgekbakommkmaaW.PrintWords Go.Proofs.YtjgekbakommkmaaW.PrintMore
open PSpansChange Pl
theorem info31 : (Try.prog.info? 31).map (fun i => (i.zero, i.size, i.bytes)) = some (some (.agg #[.int .i64 0, .int .i64 0]), 2, 16) := by kernel_rfl
/-- append(out, p) of a document's span, onto a row of the call's own. -/
theorem app31 {w0 W : World} {ops : Array Oper} {rest : List Oper} {o : Oper} {a : Act} {Q : Exit → Act → World → Prop} (base : Nat) (hgd : o.guard = none) (s x : Operand)
    (ho : o.op = .call { callee := .builtin .append, args := #[s, x], argTypes := #[27, 27] }) (v : Value) (l : List Sp) (p : Sp) (hs : a.eval s = v) (hx : a.eval x = .slice (some ⟨W.heap.size, 0, none⟩) 1 1)
    (HO : Kd.R k31 31 W base (fun _ => True) v (m31 l)) (HB : Below base w0 W) (hbase : base ≤ W.heap.size) (hl : l.length ≤ 4000000)
    (h : ∀ v1 w1, Kd.R k31 31 w1 base (fun _ => True) v1 (m31 (l ++ [p])) → Below base w0 w1 → W.grownBy w1 v.ownBlock → wpList Try.prog ops Q rest (a.put o.dst v1) w1) :
    wpList Try.prog ops Q (o :: rest) a (W.alloc (.cells #[.int .i64 p.1, .int .i64 p.2] 31)) := by
  refine Kd.R_append k31 (w0 := w0) base hgd s x 27 31 (.agg #[.int .i64 0, .int .i64 0]) 16 ho Try.underlying27 info31 rfl (by decide) (by omega) v (m31 l) ⟨p.1, p.2⟩ [.int .i64 p.1, .int .i64 p.2] (fun _ => True) (fun _ => False) hs hx (k31_mkM _ _ _ _) (fun _ hk => hk.elim) (fun _ _ => trivial) HO HB hbase (by rw [m31_length]; omega) ?_
  intro v1 w1 h1 h2 h3 _
  exact h v1 w1 (by rw [m31_append]; exact h1) h2 h3
theorem app31n {w0 W : World} {ops : Array Oper} {rest : List Oper} {o : Oper} {a : Act} {Q : Exit → Act → World → Prop} (base : Nat) (hgd : o.guard = none) (s x : Operand)
    (ho : o.op = .call { callee := .builtin .append, args := #[s, x], argTypes := #[27, 27] }) (v : Value) (l : List Sp) (p : Sp) (hs : a.eval s = v) {n : Nat} (hx : a.eval x = .slice (some ⟨n, 0, none⟩) 1 1) (hn : n = W.heap.size)
    (HO : Kd.R k31 31 W base (fun _ => True) v (m31 l)) (HB : Below base w0 W) (hbase : base ≤ W.heap.size) (hl : l.length ≤ 4000000)
    (h : ∀ v1 w1, Kd.R k31 31 w1 base (fun _ => True) v1 (m31 (l ++ [p])) → Below base w0 w1 → W.grownBy w1 v.ownBlock → wpList Try.prog ops Q rest (a.put o.dst v1) w1) :
    wpList Try.prog ops Q (o :: rest) a (W.alloc (.cells #[.int .i64 p.1, .int .i64 p.2] 31)) := by
  subst hn
  exact app31 base hgd s x ho v l p hs hx HO HB hbase hl h
theorem app30n {w0 W : World} {ops : Array Oper} {rest : List Oper} {o : Oper} {a : Act} {Q : Exit → Act → World → Prop} (base : Nat) (hgd : o.guard = none) (s x : Operand)
    (ho : o.op = .call { callee := .builtin .append, args := #[s, x], argTypes := #[26, 26] }) (v : Value) (l : List Sp) (p : Sp) (hs : a.eval s = v) {n : Nat} (hx : a.eval x = .slice (some ⟨n, 0, none⟩) 1 1) (hn : n = W.heap.size)
    (HO : Kd.R k30 30 W base (fun _ => True) v (m30 l)) (HB : Below base w0 W) (hbase : base ≤ W.heap.size) (hl : l.length ≤ 4000000)
    (h : ∀ v1 w1, Kd.R k30 30 w1 base (fun _ => True) v1 (m30 (l ++ [p])) → Below base w0 w1 → W.grownBy w1 v.ownBlock → wpList Try.prog ops Q rest (a.put o.dst v1) w1) :
    wpList Try.prog ops Q (o :: rest) a (W.alloc (.cells #[.int .i64 p.1, .int .i64 p.2] 30)) := by
  subst hn
  exact app30 base hgd s x ho v l p hs hx HO HB hbase hl h
theorem cells31 {w : World} {v : Value} {l : List Sp} {base : Nat} (h : Kd.R k31 31 w base (fun _ => True) v (m31 l)) : ∃ A c, v = .slice A l.length c ∧ l.length ≤ c ∧ Kd.C k31 w A l.length (m31 l) := by
  obtain ⟨A, c, e, h1, h2⟩ := Kd.R_reads h
  rw [m31_length] at e h1 h2
  exact ⟨A, c, e, h1, h2⟩
theorem lit31 (W : World) (base : Nat) (hbase : base ≤ W.heap.size) (l : List Sp) (inner : List Value) (hl : l.length ≤ 1000000) (hrep : Reps (Kd.M k31 W base (fun _ => False)) 2 (m31 l) inner) :
    Kd.R k31 31 (W.alloc (.cells inner.toArray 31)) base (fun _ => True) (.slice (some ⟨W.heap.size, 0, none⟩) l.length l.length) (m31 l) := by
  refine ⟨fun _ _ => trivial, inner, ?_, ?_⟩
  · have h2 := World.ownsRow_lit (base := base) (e := 31) (size := 2) W inner.toArray l.length hbase (by simp [maxLen]; omega) (by have := hrep.1; simpa using this)
    rw [m31_length]
    exact h2
  · exact hrep.imp_ (fun p c hp => Kd.M_mono k31 (fun k hk => hk.1.elim) (Kd.M_below (Kd.M_bound k31 hp) (below_alloc (Below.refl _ _) _)))
theorem lit31_1 (W : World) (s : Sp) :
    Kd.C k31 (W.alloc (.cells #[.int .i64 s.1, .int .i64 s.2] 31)) (some ⟨W.heap.size, 0, none⟩) 1 (m31 [s]) := by
  have := lit31 W W.heap.size (Nat.le_refl _) [s] [.int .i64 s.1, .int .i64 s.2] (by simp) (Reps.c2 (show Kd.M k31 W W.heap.size (fun _ => False) (⟨s.1, s.2⟩ : S31) [.int .i64 s.1, .int .i64 s.2] from (k31_mkM _ _ _ (⟨s.1, s.2⟩ : S31))) (Reps.none _ _))
  exact (Kd.R_reads' this).2.2
theorem sl22 (A : Option Addr) (c n : Nat) (hn : n ≤ c) (W : World) : (Instr.slice 22 (.slice A n c) none (some (.int .i64 (min (n : Int) 40))) none).run Try.prog W = .ok (.slice A (min 40 n) c) W := by
  have hel : Try.prog.elem 22 = 24 := by simp [Program.elem, Try.underlying22]
  have hu : Try.prog.underlying 22 = some (.slice (Try.prog.elem 22)) := by rw [hel]; exact Try.underlying22
  have hi24 : (Try.prog.info? 24).map (fun i => i.size) = some 2 := by kernel_rfl
  obtain ⟨inf, hinf, hsz⟩ : ∃ inf, Try.prog.info? 24 = some inf ∧ inf.size = 2 := by
    cases h : Try.prog.info? 24 with
    | none => rw [h] at hi24; simp at hi24
    | some inf => rw [h] at hi24; simp at hi24; exact ⟨inf, rfl, hi24⟩
  rw [run_slice_h W 22 A n c hu .i64 _ (by omega) (by omega), hel]
  have e : (min (n : Int) 40).toNat = min 40 n := by omega
  have em : Option.map (fun x : Addr => x.add 0) A = A := by cases A <;> simp [Addr.add]
  simp [sizeOf, typeInfo, hinf, hsz, sliced, Result.andThen, e, em]
theorem listF_step (l : List Sp) (k : Nat) (h : k < l.length) (whole : Bool) : listF (l.take (k + 1)) whole = if whole = true then putF (listF (l.take k) true) (nth l k) else listF (l.take k) false ++ [nth l k] := by
  unfold listF
  cases whole
  · simp only [Bool.false_eq_true, if_false]; exact take_succ l k h
  · simp only [if_true]; rw [take_succ l k h, List.foldl_append]; rfl
/-- The second loop's row. -/
theorem take_all (l : List Sp) : l.take l.length = l := List.take_length
set_option maxHeartbeats 8000000 in
set_option maxRecDepth 100000 in
theorem listsF (A : Option Addr) (c : Nat) (l : List Sp) (hc : l.length ≤ c) (w : World) (hC : Kd.C k30 w A l.length (m30 l)) :
    Calls Try.prog 9 #[.slice A l.length c, .bool false] w fun e w' => ∃ v v', e = .returned (.tuple #[v, v']) ∧ Kd.R k30 30 w' w.heap.size (fun _ => True) v (m30 (listF (l.take 40) false)) ∧ Kd.R k31 31 w' w.heap.size (fun _ => True) v' (m31 (listF (l.take 40) false)) ∧ Bel w w' := by
  have hsl := sl22 A c l.length hc
  have HC0 : Hid (Kd.C k30 w A (l.take 40).length (m30 (l.take 40))) := Lib.hid (by
    have h := Kd.C_take (m := min 40 l.length) (show Kd.C k30 w A (m30 l).length (m30 l) by rw [m30_length]; exact hC) (by rw [m30_length]; omega)
    have e : (m30 l).take (min 40 l.length) = m30 (l.take 40) := by
      unfold m30
      rw [List.map_take, List.take_eq_take_iff]
      simp
    rw [e, m30_length] at h
    exact h)
  have hq : (l.take 40).length = min 40 l.length := by simp
  generalize l.take 40 = q at *
  rw [← hq] at hsl
  have hq40 : q.length ≤ 40 := by omega
  have HT := Lib.hid (fun k h => listF_step q k h false)
  have HE : Hid (listF (q.take q.length) false = listF q false) := Lib.hid (by rw [List.take_length])
  have H0 : Hid (m31 (listF (q.take 0) false) = []) := Lib.hid (by simp [listF, m31])
  have HL := Lib.hid (fun k => Nat.le_trans (listF_len (q.take k) false) (by simp; omega : (q.take k).length ≤ q.length))
  have hbl := listF_len q false
  clear hC hq
  generalize listF q false = b at *
  go_enter Try.func9, Try.ntmps9
  go_wp2_with fail
  go_loopw [6, 19] (fun v6 v19 wr => ∃ (k : Nat), v19 = .int .i64 k ∧ k ≤ q.length ∧ Hid (Bel w wr ∧ Kd.R k31 31 wr w.heap.size (fun _ => True) v6 (m31 (listF (q.take k) false)))) (fun _ v19 _ => q.length - (intOf v19).toNat)
  case atStart => exact ⟨0, rfl, by omega, Lib.hid ⟨Bel.refl _, by rw [H0.out]; exact Kd.R_nil _ _ _ _ _⟩⟩
  case round =>
    obtain ⟨wo, rfl⟩ : ∃ wo : World, wo = wr := ⟨_, rfl⟩
    obtain ⟨k, rfl, hk, HI⟩ := hrel
    by_cases hlt : k < q.length
    · obtain ⟨ad, rfl, x0, x1⟩ := at30 (Kd.C_below HC0.out HI.out.1) k hlt
      have HK : Hid (listF (q.take (k + 1)) false = listF (q.take k) false ++ [nth q k]) := Lib.hid ((HT.out k hlt).trans (by simp))
      have hll := HL.out k
      generalize nth q k = t at *
      obtain ⟨t0, t1⟩ := t
      simp only [] at x0 x1 HK
      have HR := Lib.hid (fun o o' => Kd.R_alloc (Kd.R_alloc HI.out.2 o) o')
      have HB := Lib.hid (fun o o' => ((show Below _ w wo from HI.out.1).alloc HI.out.1.size o).alloc (show w.heap.size ≤ (wo.alloc o).heap.size by simp; have := HI.out.1.size; omega) o')
      go_wp2_with (at_builtin; refine app31n (w0 := w) w.heap.size rfl _ _ rfl u6 (listF (q.take k) false) (t0, t1) rfl rfl (by simp) ?aO ?aB ?aS ?aL ?_; (case aO => exact HR.out _ _); (case aB => exact HB.out _ _); (case aS => exact (HB.out _ _).size); (case aL => omega); intro v1 w6 ho hb hg; rw [← HK.out] at ho; have HO := Lib.hid ho; have HB := Lib.hid hb; clear ho hb hg)
      exact ⟨⟨k + 1, by congr 1, by omega, Lib.hid ⟨HB.out, HO.out⟩⟩, by simp [intOf]; omega⟩
    · have hkl : k = q.length := by omega
      subst hkl
      have hR : Kd.R k31 31 wo w.heap.size (fun _ => True) u6 (m31 b) := by rw [← HE.out]; exact HI.out.2
      have HB := Lib.hid HI.out.1
      clear HI HT HE H0 HL
      obtain ⟨A', c', rfl, hc', hC'⟩ := cells31 hR
      have HR := Lib.hid hR
      have HC' := Lib.hid hC'
      have HT2 := Lib.hid (fun k h => take_succ b k h)
      have HE2 : Hid (b.take b.length = b) := Lib.hid List.take_length
      have hbs : Hid (w.heap.size ≤ wo.heap.size) := Lib.hid HB.out.size
      clear hR hC'
      go_wp2_with fail
      go_loopw [10, 39] (fun v10 v39 wr => ∃ (k : Nat), v39 = .int .i64 k ∧ k ≤ b.length ∧ Hid (Bel wo wr ∧ Kd.R k30 30 wr wo.heap.size (fun _ => True) v10 (m30 (b.take k)))) (fun _ v39 _ => b.length - (intOf v39).toNat)
      case atStart => exact ⟨0, rfl, by omega, Lib.hid ⟨Bel.refl _, by rw [List.take_zero]; exact Kd.R_nil _ _ _ _ _⟩⟩
      case round =>
        obtain ⟨wp, rfl⟩ : ∃ wp : World, wp = wr := ⟨_, rfl⟩
        obtain ⟨k, rfl, hk, HI⟩ := hrel
        by_cases hlt2 : k < b.length
        · obtain ⟨ad, rfl, x0, x1⟩ := at31 (Kd.C_below HC'.out HI.out.1) k hlt2
          have HK := Lib.hid (HT2.out k hlt2)
          have hll : (b.take k).length ≤ 40 := by simp; omega
          generalize nth b k = t at *
          obtain ⟨t0, t1⟩ := t
          simp only [] at x0 x1 HK
          have HR2 := Lib.hid (fun o => Kd.R_alloc HI.out.2 o)
          have HB2 := Lib.hid (fun o => (show Below _ wo wp from HI.out.1).alloc HI.out.1.size o)
          go_wp2_with (at_builtin; refine app30n (w0 := wo) wo.heap.size rfl _ _ rfl u10 (b.take k) (t0, t1) rfl rfl (by simp) ?aO ?aB ?aS ?aL ?_; (case aO => exact HR2.out _); (case aB => exact HB2.out _); (case aS => exact (HB2.out _).size); (case aL => omega); intro v1 w6 ho hb hg; rw [← HK.out] at ho; have HO := Lib.hid ho; have HB3 := Lib.hid hb; clear ho hb hg)
          exact ⟨⟨k + 1, by congr 1, by omega, Lib.hid ⟨HB3.out, HO.out⟩⟩, by simp [intOf]; omega⟩
        · have hkl : k = b.length := by omega
          subst hkl
          have hR1 : Kd.R k30 30 wp w.heap.size (fun _ => True) u10 (m30 b) := Kd.R_lower (by have := HI.out.2; rwa [HE2.out] at this) hbs.out
          have hR2 := Kd.R_below HR.out HI.out.1
          have hB4 := HB.out.trans HI.out.1
          have HF := Lib.hid (And.intro hR1 (And.intro hR2 hB4))
          clear HI hR1 hR2 hB4 HC' HT2
          go_wp2_with fail
          exact bodyPost_ret (v := .tuple #[u10, .slice A' b.length c']) (by simp [results, Try.results9, go_sem]) rfl ⟨_, _, rfl, HF.out.1, HF.out.2.1, HF.out.2.2⟩
end Go.Proofs.Ytjgekbakommkmaa
