/- Known functions: the sorted keys of a map. -/
import Derived.Test.YtgpkpheejefiiaaGreatDoorX08
import Derived.Test.YtgpkpheejefiiaaGreatDoorX20
set_option linter.unusedVariables false
set_option linter.unusedSimpArgs false
namespace Go.Proofs.YtgpkpheejefiiaaGreatDoor
open Go.RowKit Go.Maps Go.Sort Go.Shelf Go.Proofs
theorem sortsIn (m : Nat) : AnyZI.SortsIn Tryz.prog shSorted_ren Fence.wide m :=
  ⟨fun blk off cap ss W hH hblk hsz => callsIn_wide.2 (AnyM.slices_Sort_int shSort blk off cap ss W hH hblk hsz),
   fun p cap W => callsIn_wide.2 (AnyM.slices_Sort_int_none shSort p cap W)⟩
set_option maxHeartbeats 1000000 in
set_option maxRecDepth 100000 in
theorem sortedKeysB {H : Type} (g : Nat) (hg : g = 165 ∨ g = 172) (bm b nn : Nat) (D0 : DataW H) (R : Value → Option (DataW H × List MemPlace)) (w : World) (hbm : bm < w.heap.size) (hm : w.cell? ⟨bm, 0, none⟩ = some (.map (some b))) (hown : w.ownsMap Tryz.prog 3 R b nn D0) (hmax : Maps.size D0 ≤ maxLen) (hbytes : Maps.size D0 * 8 ≤ 140737488355328) :
    Calls Tryz.prog 99 #[.func (.func g) #[] #[.pointer (some ⟨bm, 0, none⟩)]] w fun e w' => ∃ (v : Value) (ss : List Int), e = .returned v ∧ ss.Perm (intKeys D0) ∧
      w'.ownsRow w.heap.size 3 1 v ss.length ((ss.mergeSort (fun x y => decide (x ≤ y))).map encZ) ∧ (v = .slice none 0 0 ↔ ss = []) ∧ Below w.heap.size w w' := by
  refine (callsIn_wide (n := 6)).1 ?_
  have hseq : SeqGives Fence.wide 3 Tryz.prog g #[.pointer (some ⟨bm, 0, none⟩)] encZ (fun ss => ss.Perm (intKeys D0)) (Maps.size D0) w := by
    rcases hg with rfl | rfl
    · exact AnyZI.keys_gives (ρ := shKeysA_ren) { shKeysA with } Fence.wide _ trivial rfl (by omega) bm b nn D0 w hbm hm hown
    · exact AnyZI.keys_gives (ρ := shKeysB_ren) { shKeysB with } Fence.wide _ trivial rfl (by omega) bm b nn D0 w hbm hm hown
  have hge : ∀ args w, (callFunc g args).run Tryz.prog w = .ok (.enter g args) w := by
    rcases hg with rfl | rfl
    · exact enter_run (by kernel_rfl)
    · exact enter_run (by kernel_rfl)
  have cS := AnyZI.sorted_in shSorted Fence.wide 6 trivial trivial trivial trivial rfl (by omega) (sortsIn _) (enter_run (by kernel_rfl)) g #[.pointer (some ⟨bm, 0, none⟩)] trivial hge _ _ hmax hbytes _ hseq
  exact cS
/-- Any element reads as one and the same datum: only the keys count. -/
def R0 : Value → Option (DataW Unit × List MemPlace) := fun _ => some (.lit (.bool true), [])
theorem EmbM.keys {r : Pl} {es : List (Int × SV)} {l : List MapEntry} (h : EmbM r es l) : l.map (·.key) = es.map fun p => Value.int .i64 p.1 := by
  induction h with
  | nil => rfl
  | cons k s v b l u h m ih => simp [ih]
theorem sorted_permI {H : Type} : ∀ (l : List (Lit × DataW H)), (l.foldr DataW.insert []).Perm l := WideShapes.sorted_perm
theorem ownsMap_sim {r : Pl} {es : List (Int × SV)} {l : List MapEntry} {w : World} {b k : Nat} (hb : w.heap[b]? = some (.map l.toArray k)) (h : EmbM r es l) (hpw : (l.map (·.born)).Pairwise (· < ·)) (hk : ∀ e ∈ l, e.born < k)
    (hnd : (es.map (·.1)).Nodup) (hwf : ∀ p ∈ es, (Lit.int .i64 p.1).wf = true) (hsz : l.length ≤ 100000) :
    ∃ D0 : DataW Unit, w.ownsMap Tryz.prog 3 R0 b l.length D0 ∧ Maps.size D0 = es.length ∧ (intKeys D0).Perm (es.map (·.1)) := by
  have hu : Tryz.prog.underlying 3 = some (.int .i64) := Tryz.underlying3
  have hrd : ∀ e ∈ l, ∃ x, e.key = .int .i64 x ∧ (Lit.int .i64 x).wf = true := fun e he => by
    have : e.key ∈ l.map (·.key) := List.mem_map.2 ⟨e, he, rfl⟩
    rw [h.keys] at this
    obtain ⟨p, hp, e1⟩ := List.mem_map.1 this
    exact ⟨p.1, e1.symm, hwf p hp⟩
  have hrg : ∀ e ∈ l, ∃ x, e.key = .int .i64 x ∧ WideElems.rd Tryz.prog 3 R0 e = some (.int .i64 x, .lit (.bool true)) := fun e he => by
    obtain ⟨x, h1, h2⟩ := hrd e he
    refine ⟨x, h1, ?_⟩
    unfold WideElems.rd
    rw [h1, keyOf_int_mk hu h2]
    rfl
  refine ⟨.map ((l.toArray.toList.map (WideElems.rg Tryz.prog 3 R0)).foldr DataW.insert []), ⟨l.toArray, k, hb, ⟨?_, ⟨?_, ?_, ?_⟩, ?_⟩, by simp, rfl⟩, ?_, ?_⟩
  · have : maxLen = 9223372036854775807 := rfl
    simp; omega
  · simpa using hk
  · simp only [List.toList_toArray]
    exact hpw.imp (fun h => by omega)
  · simp only [List.toList_toArray]
    rw [h.keys]
    have : (es.map fun p => Value.int .i64 p.1) = (es.map (·.1)).map (Value.int .i64) := by simp
    rw [this]
    exact hnd.map _ (fun a b hab e => hab (by simpa using e))
  · simp only [List.toList_toArray]
    intro e he
    obtain ⟨x, _, h2⟩ := hrg e he
    exact ⟨_, h2⟩
  · show (List.foldr DataW.insert [] _).length = _
    rw [(sorted_permI _).length_eq]
    have := congrArg List.length h.keys
    simpa using this
  · have h1 : (intKeys (H := Unit) (.map ((l.toArray.toList.map (WideElems.rg Tryz.prog 3 R0)).foldr DataW.insert []))).Perm ((l.toArray.toList.map (WideElems.rg Tryz.prog 3 R0)).map fun p => Go.intOf p.1) := (sorted_permI _).map _
    refine h1.trans ?_
    have : ((l.toArray.toList.map (WideElems.rg Tryz.prog 3 R0)).map fun p => Go.intOf p.1) = es.map (·.1) := by
      simp only [List.toList_toArray, List.map_map]
      have e2 : l.map ((fun p => Go.intOf p.1) ∘ WideElems.rg Tryz.prog 3 R0) = (l.map (·.key)).map fun v => match v with | .int _ x => x | _ => 0 := by
        rw [List.map_map]
        refine List.map_congr_left (fun e he => ?_)
        obtain ⟨x, h2, h3⟩ := hrg e he
        simp only [Function.comp, WideElems.rg_of h3, h2]
        rfl
      rw [e2, h.keys, List.map_map]
      rfl
    rw [this]
theorem strictI_ok : ∀ (l : List Int) (p : Int), strictI l p = true → l.Pairwise (· < ·) ∧ ∀ x ∈ l, p < x ∧ x < 1000000
  | [], p, _ => ⟨.nil, by simp⟩
  | x :: l, p, h => by
    have h : aB (ltI p x) (aB (ltI x 1000000) (strictI l x)) = true := h
    obtain ⟨h1, h2⟩ := aB_true h
    obtain ⟨h3, h4⟩ := aB_true h2
    rw [ltI_eq] at h1 h3
    have h1 : p < x := of_decide_eq_true h1
    have h3 : x < 1000000 := of_decide_eq_true h3
    obtain ⟨k1, k2⟩ := strictI_ok l x h4
    refine ⟨List.pairwise_cons.2 ⟨fun y hy => (k2 y hy).1, k1⟩, fun y hy => ?_⟩
    rcases List.mem_cons.1 hy with rfl | hy
    · exact ⟨h1, h3⟩
    · have := k2 y hy; omega
theorem insI_perm (x : Int) : ∀ l : List Int, (insI x l).Perm (x :: l)
  | [] => .refl _
  | y :: l => by
    have : insI x (y :: l) = bI (YtgpkpheejefiiaaGreatDoor.leI x y) (x :: y :: l) (y :: insI x l) := rfl
    rw [this, bI_eq]
    split
    · exact .refl _
    · exact ((insI_perm x l).cons y).trans (List.Perm.swap x y l)
theorem sortI_perm : ∀ es : List (Int × SV), (sortI es).Perm (es.map (·.1))
  | [] => .refl _
  | e :: es => (insI_perm e.1 (sortI es)).trans ((sortI_perm es).cons e.1)
theorem i64s_emb (r : Pl) : ∀ l : List Int, EmbL r (i64s l) (l.map encZ)
  | [] => .nil
  | x :: l => .cons _ _ _ _ (.int .i64 x) (i64s_emb r l)
theorem wf_small {x : Int} (h0 : 0 ≤ x) (h1 : x < 9223372036854775808) : (Lit.int .i64 x).wf = true := by
  simp [Lit.wf, IntKind.min, IntKind.max, IntKind.signed, IntKind.bits]
  omega
theorem sorted_merge {ss : List Int} {es : List (Int × SV)} (h : ss.Perm (es.map (·.1))) (hs : (sortI es).Pairwise (· < ·)) : ss.mergeSort (fun x y => decide (x ≤ y)) = sortI es := by
  have e := mergeSort_of_perm_i (h.trans (sortI_perm es).symm)
  have e2 : (sortI es).mergeSort (fun x y => decide (x ≤ y)) = sortI es := List.mergeSort_of_pairwise (hs.imp (fun h => by simpa using Int.le_of_lt h))
  exact e.trans e2
theorem kn99 : KnOK 99 kSorted := by
  intro cb hcb args S nx s S' nx' h r w args' hs hG ha
  obtain ⟨f, rfl, h1⟩ := vA1 h
  obtain ⟨k, l, m, ef, h2⟩ := vFun h1
  subst ef
  match l, m, h2, ha with
  | [], [p], h2, ha =>
    obtain ⟨hk, h3⟩ := vbI h2
    obtain ⟨g, o, ep, h4⟩ := vPtr h3
    obtain ⟨cs, q1, h5⟩ := vvB h4
    obtain ⟨hc, h6⟩ := vbI h5
    obtain ⟨hc1, hc2⟩ := aB_true hc
    obtain rfl : o = 0 := Nat.eq_of_beq_eq_true hc1
    obtain ⟨mg, em, h7⟩ := vMap h6
    obtain ⟨es, q2, h8⟩ := vvB h7
    obtain ⟨hc3, h9⟩ := vbI h8
    obtain ⟨hc4, hc5⟩ := aB_true hc3
    have hes : es.length ≤ 100000 := Nat.le_of_ble_eq_true hc4
    obtain ⟨st1, st2⟩ := strictI_ok _ _ hc5
    have hkk : k = 165 ∨ k = 172 := by
      rcases Bool.or_eq_true_iff.1 hk with h | h
      · exact .inl (Nat.eq_of_beq_eq_true h)
      · exact .inr (Nat.eq_of_beq_eq_true h)
    subst ep
    obtain ⟨v, rfl, hv⟩ := ha.one1
    cases hv with
    | func _ _ _ u1 u2 hu1 hu2 =>
    obtain rfl := hu1.nil_inv
    obtain ⟨pv, rfl, hp⟩ := hu2.one1
    obtain ⟨bm, c, hr, rfl⟩ := hp.ptr_inv
    obtain ⟨b1, c1, mv, e1, e2, e3⟩ := hs.read q1 (i := 0) hc2
    rw [hr] at e1
    obtain ⟨rfl, rfl⟩ : bm = b1 ∧ c = c1 := by simpa using e1
    rw [em] at e2
    obtain ⟨b, c2, hrm, rfl⟩ := e2.map_inv
    obtain ⟨ob, q3, q4⟩ := oB_some q2
    obtain ⟨b', c', yy, k1, k2, k3⟩ := hs.obj mg ob q3
    rw [hrm] at k1
    obtain ⟨rfl, rfl⟩ : b = b' ∧ c2 = c' := by simpa using k1
    cases k3 with
    | cells => simp [SO.onMap] at q4
    | row => simp [SO.onMap] at q4
    | ro => simp [SO.onMap] at q4
    | map es' c3 ml clk hm hborn hclk =>
    have q4 : es' = es := by simpa [SO.onMap] using q4
    subst q4
    have hperm := sortI_perm es'
    have hnd : (es'.map (·.1)).Nodup := hperm.nodup (st1.imp (fun h => by omega))
    have hwf : ∀ p ∈ es', (Lit.int .i64 p.1).wf = true := fun p hp => by
      have := st2 p.1 (hperm.mem_iff.2 (List.mem_map.2 ⟨p, hp, rfl⟩))
      exact wf_small (by omega) (by omega)
    have hlen : ml.length = es'.length := by have := congrArg List.length hm.keys; simpa using this
    obtain ⟨D0, o1, o2, o3⟩ := ownsMap_sim k2 hm hborn hclk hnd hwf (by omega)
    have hbm : bm < w.heap.size := (hs.dom g bm c hr).1
    have K := sortedKeysB k hkk bm b ml.length D0 R0 w hbm e3 o1 (by have : maxLen = 9223372036854775807 := rfl; omega) (by omega)
    refine .inr ⟨enter_run (by kernel_rfl) _ _, K.mono fun e w' ⟨v, ss, z1, z2, z3, z4, z5⟩ => ?_⟩
    have hsm := sorted_merge (z2.trans o3) st1
    have hssl : ss.length = es'.length := by have := (z2.trans o3).length_eq; simpa using this
    have hs' : Sim r S nx w' := hs.bel z5
    cases hes' : es' with
    | nil =>
      rw [hes'] at h9 hssl
      obtain ⟨x1, x2, x3⟩ := vVal h9
      have : ss = [] := List.eq_nil_of_length_eq_zero (by simpa using hssl)
      have hvn := z4.2 this
      rw [← x1, ← x2, ← x3]
      exact ⟨r, v, z1, Pl.le_refl r, hs', by rw [hvn]; exact .nils, Upd.of_bel z5⟩
    | cons p0 es0 =>
      have h9' : VO.val (.own nx 0 es'.length 0) (updT S nx (some (.ro (i64s (sortI es'))))) (Nat.succ nx) = .val s S' nx' := by
        rw [hes'] at h9 ⊢
        exact h9
      obtain ⟨x1, x2, x3⟩ := vVal h9'
      have hne : ss ≠ [] := fun e => by rw [e, hes'] at hssl; simp at hssl
      obtain ⟨zl, ⟨zv, _⟩ | ⟨gb, cap, cur, zv, zb, zg, zn, zc, zsz, zx⟩⟩ := z3
      · exact absurd (z4.1 zv) hne
      · rw [hsm] at zx
        have hgb : gb < w'.heap.size := blk_lt zg
        have hf : ¬ feet r gb := fun ⟨g', d', e'⟩ => by have := (hs.dom g' gb d' e').1; omega
        have htk : cur.toList = (sortI es').map encZ ++ cur.toList.drop ss.length := by
          have : cur.toList.take ss.length = (sortI es').map encZ := by simpa using zx
          rw [← this, List.take_append_drop]
        have hle := hs'.le_new gb cap
        have ho : ObjR (r.new nx gb cap) (.ro (i64s (sortI es'))) cap (.cells cur 3 (0, 0)) := by
          have := ObjR.ro (r := r.new nx gb cap) (i64s (sortI es')) cap ((sortI es').map encZ) (cur.toList.drop ss.length) 3 (0, 0) (i64s_emb _ _)
          rw [← htk] at this
          simpa using this
        have hA := hs'.adopt zg hf ho
        refine ⟨r.new nx gb cap, v, z1, hle, by rw [← x2, ← x3]; exact hA, ?_, ?_⟩
        · rw [← x1, zv, hssl]
          have := Emb.own (r := r.new nx gb cap) nx 0 es'.length 0 gb cap (Pl.new_self _ _ _ _) (by omega)
          simpa using this
        · refine (Upd.of_bel (F := feet r) z5).foot_of (fun i hi => ?_)
          obtain ⟨g', d', e'⟩ := hi
          simp only [Pl.new] at e'
          split at e'
          · simp at e'; right; omega
          · exact .inl ⟨g', d', e'⟩
end Go.Proofs.YtgpkpheejefiiaaGreatDoor
