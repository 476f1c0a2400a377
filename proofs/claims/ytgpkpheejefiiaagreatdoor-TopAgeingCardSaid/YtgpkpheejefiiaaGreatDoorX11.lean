/- A checked evaluator: drawn regions, joined. | A checked evaluator: drawn regions are right. | A checked evaluator: the check of a plan. | A checked evaluator: a function's drawn regions, checked. -/
import Derived.Test.YtgpkpheejefiiaaGreatDoorX09
section
set_option linter.unusedVariables false
set_option linter.unusedSimpArgs false
namespace Go.Proofs.YtgpkpheejefiiaaGreatDoor
open Go.RowKit
variable {P : Program}
variable {T : Tab P} {n : Nat} {ops : Array Oper} {l : List PI} {up : Nat → Nat → Prop} {early : Nat → Prop}
  {cb : CB} {Q : Post} {r0 : Pl} {w0 : World} {p : Nat} {L : Array Bool} {a : Go.Act} {w : World} {r : Pl} {b : Go.Act} {t : En} {S : Tr} {nx : Nat} {G : GL} {B : Nat → Nat}
theorem withG_want {o : Oper} {yes : Gx} {no : GF} {m : Nat} {r1 : Pl} {w1 : World} (he : Env n r t b) (h : Good m r1 w1 Q ((withG n ops.toList o yes no).go cb t S nx G)) :
    dOK n o.dst = true ∧ ∃ bb, Region.wanted o (yielded ops b.tmps) = bb ∧ (bb = true → Good m r1 w1 Q (yes.go cb t S nx G)) ∧ (bb = false → Good m r1 w1 Q (no cb t S nx G)) := by
  obtain ⟨h1, h2⟩ := withG_good h
  refine ⟨h1, ?_⟩
  rcases h2 with ⟨hg, h2⟩ | ⟨j, want, d, bb, hg, hj, hd, hv, h3, h4⟩
  · exact ⟨true, by unfold Region.wanted; rw [hg], fun _ => h2, fun e => by cases e⟩
  · exact ⟨bb, guardV_ok he hd hv hg (tmpOf_ok hj), h3, h4⟩
theorem Inv.head (hpl : PlanOK T n ops l up early) (hI : Inv T n ops l early cb Q r0 w0 p L a w r b t S nx G B) {x : PI} (hx : l[p]? = some x) : ∃ o, ops[x.i]? = some o ∧ ops.toList[x.i]? = some o ∧ Good n r0 w0 Q ((runPI T n ops.toList x (runPlan T n ops.toList (l.drop (p + 1))).go).go cb t S nx G) := by
  obtain ⟨hlt, hxe⟩ := List.getElem?_eq_some_iff.1 hx
  have e : l.drop p = x :: l.drop (p + 1) := by rw [List.drop_eq_getElem_cons hlt, hxe]
  have h := hI.good
  rw [e, runPlan_cons] at h
  have hi := hpl.lt x (hxe ▸ List.getElem_mem hlt)
  exact ⟨ops[x.i], Array.getElem?_eq_getElem hi, by rw [Array.getElem?_toList]; exact Array.getElem?_eq_getElem hi, h⟩
theorem Inv.unlisted (hpl : PlanOK T n ops l up early) (hI : Inv T n ops l early cb Q r0 w0 p L a w r b t S nx G B) {x : PI} (hx : l[p]? = some x) (hk : ∀ keep, x ≠ .s x.i keep) : L.getD x.i false = false := by
  cases h : L.getD x.i false with
  | false => rfl
  | true =>
    obtain ⟨_, _, _, _, _, keep, hs⟩ := hpl.mkr _ (hI.leadE _ (not_done hpl hx) h)
    exact absurd hs (not_s hpl hx hk keep)
/-- The plan goes on as far as it can without the real run. -/
theorem Inv.stable (hpl : PlanOK T n ops l up early) (hT : TabOK T) : ∀ (k p : Nat) (r : Pl) (b : Go.Act) (t : En) (S : Tr) (nx : Nat) (G : GL), l.length - p = k → Inv T n ops l early cb Q r0 w0 p L a w r b t S nx G B →
    ∃ p' r' b' t' S' nx' G', Inv T n ops l early cb Q r0 w0 p' L a w r' b' t' S' nx' G' B ∧ (p' = l.length ∨ ∃ c keep, l[p']? = some (.s c keep) ∧ L.getD c false = false)
  | 0, p, r, b, t, S, nx, G, hk, hI => ⟨p, r, b, t, S, nx, G, hI, .inl (by have := hI.hp; omega)⟩
  | k + 1, p, r, b, t, S, nx, G, hk, hI => by
    have hlt : p < l.length := by omega
    obtain ⟨x, hx⟩ : ∃ x, l[p]? = some x := ⟨l[p], List.getElem?_eq_getElem hlt⟩
    obtain ⟨o, ho, ho', h⟩ := hI.head hpl hx
    have next : ∀ (r' : Pl) (b' : Go.Act) (t' : En) (S' : Tr) (nx' : Nat) (G' : GL), Inv T n ops l early cb Q r0 w0 (p + 1) L a w r' b' t' S' nx' G' B → ∃ p' r' b' t' S' nx' G', Inv T n ops l early cb Q r0 w0 p' L a w r' b' t' S' nx' G' B ∧ (p' = l.length ∨ ∃ c keep, l[p']? = some (.s c keep) ∧ L.getD c false = false) :=
      fun r' b' t' S' nx' G' h => Inv.stable hpl hT k (p + 1) r' b' t' S' nx' G' (by omega) h
    cases x with
    | p i =>
      have hL := hI.unlisted hpl hx (fun keep e => by cases e)
      unfold runPI at h
      simp only [PI.i] at ho ho' hL
      simp only [ho'] at h
      obtain ⟨hd, bb, hwt, h1, h2⟩ := withG_want hI.env h
      have hdk := dOK_ok hd hI.env.le
      cases bb with
      | true =>
        have h1 := h1 rfl
        cases hev : evOf T n o.op with
        | p f =>
          rw [hev] at h1
          obtain ⟨s, hf, hg⟩ := gP_good h1
          obtain ⟨v, k1, k2⟩ := pOf_ok hT (evOf_p hev) hI.sim hI.env hf
          exact next _ _ _ _ _ _ (hI.adv hpl hx (flag := false) (.inl rfl) ho hL hdk k1 (fun q hq => hq) (.inl (.inl ⟨hwt, k2⟩)) hg)
        | l f => rw [hev] at h1; exact h1.elim
        | m f => rw [hev] at h1; exact h1.elim
        | e f => rw [hev] at h1; exact h1.elim
        | bad => rw [hev] at h1; exact h1.elim
      | false => exact next _ _ _ _ _ _ (hI.adv hpl hx (flag := false) (.inl rfl) ho hL hdk .undef (fun q hq => hq) (.inl (.inr ⟨hwt, rfl⟩)) (h2 rfl))
    | l i flag =>
      have hL := hI.unlisted hpl hx (fun keep e => by cases e)
      unfold runPI at h
      simp only [PI.i] at ho ho' hL
      simp only [ho'] at h
      obtain ⟨hd, bb, hwt, h1, h2⟩ := withG_want hI.env h
      have hdk := dOK_ok hd hI.env.le
      have hmem : PI.l i flag ∈ l := List.mem_iff_getElem?.2 ⟨p, hx⟩
      cases bb with
      | true =>
        have h1 := h1 rfl
        cases hev : evOf T n o.op with
        | l f =>
          rw [hev] at h1
          have lag : ∀ (G' : GL) (s : SV) (g : Nat), f t S = some (s, g) → (∀ so, atT S g = some so → flag = true → (i, g, so) ∈ G') → ∃ v, Emb r s v ∧ LagOK P ops l r w G' b i flag o v := by
            intro G' s g hf hG
            obtain ⟨so, k1, k2⟩ := lOf_ok hT (evOf_l hev) hI.env hf
            obtain ⟨v, j1, j2⟩ := k2 w (hI.sim.keep k1)
            refine ⟨v, j1, .inr ⟨hwt, hmem, g, so, hI.sim.keep k1, fun r2 w2 hr hk => ?_, hG so k1⟩⟩
            obtain ⟨so2, k3, k4⟩ := lOf_ok hT (evOf_l hev) (hI.env.up hr) hf
            rw [k1] at k3
            obtain rfl := Option.some.inj k3
            obtain ⟨v2, j3, j4⟩ := k4 w2 hk
            rw [(j1.up hr).unique j3]
            exact j4
          cases flag with
          | true =>
            obtain ⟨⟨s, g⟩, so, hf, hso, hg⟩ := gLF_good h1
            obtain ⟨v, j1, j2⟩ := lag ((i, g, so) :: G) s g hf (fun so' h _ => by rw [hso] at h; obtain rfl := Option.some.inj h; exact List.mem_cons_self)
            exact next _ _ _ _ _ _ (hI.adv hpl hx (flag := true) (.inr rfl) ho hL hdk j1 (fun q hq => List.mem_cons_of_mem _ hq) j2 hg)
          | false =>
            obtain ⟨⟨s, g⟩, hf, hg⟩ := gL_good h1
            obtain ⟨v, j1, j2⟩ := lag G s g hf (fun so' h e => by cases e)
            exact next _ _ _ _ _ _ (hI.adv hpl hx (flag := false) (.inr rfl) ho hL hdk j1 (fun q hq => hq) j2 hg)
        | p f => rw [hev] at h1; exact h1.elim
        | m f => rw [hev] at h1; exact h1.elim
        | e f => rw [hev] at h1; exact h1.elim
        | bad => rw [hev] at h1; exact h1.elim
      | false => exact next _ _ _ _ _ _ (hI.adv hpl hx (flag := flag) (.inr rfl) ho hL hdk .undef (fun q hq => hq) (.inl (.inr ⟨hwt, rfl⟩)) (h2 rfl))
    | s c keep =>
      simp only [PI.i] at ho ho'
      cases hL : L.getD c false with
      | false => exact ⟨p, r, b, t, S, nx, G, hI, .inr ⟨c, keep, hx, hL⟩⟩
      | true =>
        obtain ⟨f, so, sh, v, y, hg, hev, _⟩ := hI.lead c o ho (not_done hpl hx) hL
        unfold runPI at h
        simp only [ho'] at h
        obtain ⟨hd, h2⟩ := withG_good h
        rcases h2 with ⟨_, h2⟩ | ⟨j, want, d, bb, hg2, _⟩
        · rw [hev] at h2
          obtain ⟨⟨so', sh'⟩, hf, hgood⟩ := gM_good h2
          obtain ⟨v, hI'⟩ := hI.adopt hpl hx ho hL (dOK_ok hd hI.env.le) hev hf hgood
          exact next _ _ _ _ _ _ hI'
        · rw [hg] at hg2; cases hg2
/-- Both runs carry out the plan's next operation. -/
theorem Inv.both (hpl : PlanOK T n ops l up early) (hT : TabOK T) (hcb : CBOK P cb) (hI : Inv T n ops l early cb Q r0 w0 p L a w r b t S nx G B) {c : Nat} {keep : List Nat} (hx : l[p]? = some (.s c keep)) {o : Oper} (ho : ops[c]? = some o) (hL : L.getD c false = false) (hw : ∀ i, Waits o i → L.getD i false = true)
    {K : Go.Act → World → Prop} {Q' : Post} (hK : ∀ a' w' r' b' t' S' nx', Inv T n ops l early cb Q r0 w0 (p + 1) (L.setIfInBounds c true) a' w' r' b' t' S' nx' G B → K a' w') : wpOp P ops Q' c K a w := by
  have hsel := Region.noSelect_spec hpl.nosel
  have hsame := hI.reads hpl ho hL hw (fun j hj => hpl.ord _ _ hx _ ho _ hj)
  obtain ⟨o', ho1, ho', h⟩ := hI.head hpl hx
  simp only [PI.i] at ho1 ho'
  rw [ho] at ho1
  obtain rfl := Option.some.inj ho1
  unfold runPI at h
  simp only [ho'] at h
  obtain ⟨hd, bb, hwt, h1, h2⟩ := withG_want hI.env h
  have hdk := dOK_ok hd hI.env.le
  unfold Go.wpOp
  simp only [ho]
  rw [wanted_same hsame, hwt]
  cases bb with
  | false =>
    exact hK _ _ _ _ _ _ _ (hI.sync hpl hx ho hL hw hdk (Pl.le_refl r) hI.sim .undef (Upd.refl _ _) (fun _ _ _ _ _ k => k) (h2 rfl))
  | true =>
    refine .inl ?_
    unfold Oper.wp
    rw [exec_same (fun cs bb => hsel _ _ cs bb ho) hsame]
    have h1 := h1 rfl
    cases hev : evOf T n o.op with
    | p f =>
      rw [hev] at h1
      obtain ⟨s, hf, hg⟩ := gP_good h1
      obtain ⟨v, k1, k2⟩ := pOf_ok hT (evOf_p hev) hI.sim hI.env hf
      rw [k2]
      exact hK _ _ _ _ _ _ _ (hI.sync hpl hx ho hL hw hdk (Pl.le_refl r) hI.sim k1 (Upd.refl _ _) (fun _ _ _ _ _ k => k) hg)
    | l f =>
      rw [hev] at h1
      obtain ⟨⟨s, g⟩, hf, hg⟩ := gL_good h1
      obtain ⟨so, k1, k2⟩ := lOf_ok hT (evOf_l hev) hI.env hf
      obtain ⟨v, j1, j2⟩ := k2 w (hI.sim.keep k1)
      rw [j2]
      exact hK _ _ _ _ _ _ _ (hI.sync hpl hx ho hL hw hdk (Pl.le_refl r) hI.sim j1 (Upd.refl _ _) (fun _ _ _ _ _ k => k) hg)
    | m f =>
      rw [hev] at h1
      obtain ⟨⟨so, sh⟩, hf, hg⟩ := gM_good h1
      obtain ⟨v, y, k1, k2, k3⟩ := mOf_ok hT (evOf_m hev) hI.env hf
      rw [k1]
      obtain ⟨j1, j2⟩ := hI.sim.new (c := 0) (k2 r (Pl.le_refl r))
      have hle := hI.sim.le_new w.heap.size 0
      exact hK _ _ _ _ _ _ _ (hI.sync hpl hx ho hL hw hdk hle j1 (k3 _ nx _ hle (Pl.new_self _ _ _ _)) j2 (fun _ _ _ _ _ k => (k.up hle).bel (Bel.alloc w y)) hg)
    | e f =>
      rw [hev] at h1
      have hok := eOf_ok hT (evOf_e hev) hI.env hI.sim
      rcases gE_good h1 with ⟨s, hf, hg⟩ | ⟨s, S', nx', hf, hkp, hg⟩ | ⟨f', args, s, S', nx', hf, hc, hkp, hg⟩
      · rw [hf] at hok
        obtain ⟨v, k1, k2⟩ := hok
        rw [k2]
        exact hK _ _ _ _ _ _ _ (hI.sync hpl hx ho hL hw hdk (Pl.le_refl r) hI.sim k1 (Upd.refl _ _) (fun _ _ _ _ _ k => k) hg)
      · rw [hf] at hok
        obtain ⟨r', v, w', q1, q2, q3, q4, q5⟩ := hok
        have hi := hI.sync hpl hx ho hL hw hdk q1 q2 q3 q4 (fun i g so hi hgm _ => q2.keep (keepOK_ok hkp hi hgm)) hg
        rcases q5 with q5 | ⟨rfl, q5⟩
        · rw [q5]; exact hK _ _ _ _ _ _ _ hi
        · rw [q5]; exact hK _ _ _ _ _ _ _ hi
      · rw [hf] at hok
        obtain ⟨args', k1, k2⟩ := hok
        rw [k2]
        rcases hcb _ _ _ _ _ _ _ hc r w args' hI.sim hI.env.glob k1 with ⟨r', v, w', q1, q2, q3, q4, q5⟩ | ⟨q5, q6⟩
        · rw [q5]
          exact hK _ _ _ _ _ _ _ (hI.sync hpl hx ho hL hw hdk q1 q2 q3 q4 (fun i g so hi hgm _ => q2.keep (keepOK_ok hkp hi hgm)) hg)
        · rw [q5]
          refine Calls.mono q6 ?_
          rintro e w' ⟨r', v, rfl, q1, q2, q3, q4⟩
          exact hK _ _ _ _ _ _ _ (hI.sync hpl hx ho hL hw hdk q1 q2 q3 q4 (fun i g so hi hgm _ => q2.keep (keepOK_ok hkp hi hgm)) hg)
    | bad => rw [hev] at h1; exact h1.elim
end Go.Proofs.YtgpkpheejefiiaaGreatDoor
end
section
set_option linter.unusedVariables false
set_option linter.unusedSimpArgs false
namespace Go.Proofs.YtgpkpheejefiiaaGreatDoor
open Go.RowKit
variable {P : Program}
/-- how many are not listed -/
def cnt (L : Array Bool) : Nat := L.toList.countP (fun b => !b)
theorem cnt_set {L : Array Bool} {i : Nat} (hi : i < L.size) (h : L.getD i false = false) : cnt (L.setIfInBounds i true) + 1 = cnt L := by
  unfold cnt
  rw [Array.toList_setIfInBounds, List.countP_set (by simpa using hi)]
  have h1 : L.toList[i]'(by simpa using hi) = false := by
    simpa [Array.getD_eq_getD_getElem?, hi] using h
  have hpos : 0 < L.toList.countP (fun b => !b) := List.countP_pos_iff.2 ⟨false, by rw [← h1]; exact List.getElem_mem _, rfl⟩
  rw [h1]
  have e1 : (if (!false) = true then 1 else 0) = 1 := rfl
  have e2 : (if (!true) = true then 1 else 0) = 0 := rfl
  show L.toList.countP (fun b => !b) - (if (!false) = true then 1 else 0) + (if (!true) = true then 1 else 0) + 1 = _
  rw [e1, e2]
  omega
theorem cnt_zero {L : Array Bool} (h : cnt L = 0) {i : Nat} (hi : i < L.size) : L.getD i false = true := by
  unfold cnt at h
  rw [List.countP_eq_zero] at h
  have := h L[i] (by simp)
  simpa [Array.getD_eq_getD_getElem?, hi] using this
variable {T : Tab P} {n : Nat} {ops : Array Oper} {l : List PI} {up : Nat → Nat → Prop} {early : Nat → Prop}
  {cb : CB} {Q : Post} {r0 : Pl} {w0 : World} {p : Nat} {L : Array Bool} {a : Go.Act} {w : World} {r : Pl} {b : Go.Act} {t : En} {S : Tr} {nx : Nat} {G : GL} {B : Nat → Nat}
/-- All is listed: the region is done. -/
theorem Inv.finish (hpl : PlanOK T n ops l up early) (hT : TabOK T) (hI : Inv T n ops l early cb Q r0 w0 p L a w r b t S nx G B) (hall : ∀ i, i < ops.size → L.getD i false = true) : Q .normal a w := by
  obtain ⟨p', r', b', t', S', nx', G', h, hs⟩ := hI.stable hpl hT (l.length - p) p r b t S nx G rfl
  rcases hs with rfl | ⟨c, keep, hx, hL⟩
  · have hg := h.good
    rw [List.drop_length] at hg
    replace hg : At n r0 w0 t' S' nx' (Q .normal) := hg
    refine hg r' w a h.le h.sim ⟨h.size, h.env.le, h.def', h.env.glob, fun i hi => ?_⟩ h.upd
    have := h.same i fun j o hj hd => by
      have hjs := (Array.getElem?_eq_some_iff.1 hj).1
      exact ⟨fun _ => hall j hjs, fun _ => hpl.mem j hjs⟩
    rw [this]
    exact h.env.emb i hi
  · obtain ⟨o, ho, _⟩ := h.head hpl hx
    have := hall _ (Array.getElem?_eq_some_iff.1 ho).1
    simp only [PI.i] at this
    rw [hL] at this
    cases this
/-- As long as not all is listed, something is ready. -/
theorem Inv.some_ready (hpl : PlanOK T n ops l up early) (hI : Inv T n ops l early cb Q r0 w0 p L a w r b t S nx G B) (hr : Region.ready .any ops L = []) : ∀ i, i < ops.size → L.getD i false = true := by
  have key : ∀ (k : Nat) (x : PI), l[k]? = some x → L.getD x.i false = true := by
    intro k
    induction k using Nat.strongRecOn with
    | _ k ih =>
      intro x hx
      cases h : L.getD x.i false with
      | true => rfl
      | false =>
        have hxs : x.i < ops.size := hpl.lt x (List.mem_of_getElem? hx)
        have hxL : x.i < L.size := by rw [hI.len]; exact hxs
        have : x.i ∈ Region.ready .any ops L := by
          refine mem_ready.2 ⟨by simpa [Array.getD_eq_getD_getElem?, hxL] using h, ops[x.i], Array.getElem?_eq_getElem hxs, fun e he hb => ?_⟩
          obtain ⟨k', y, k1, k2, k3⟩ := done_at (hpl.ord _ _ hx _ (Array.getElem?_eq_getElem hxs) e.on ⟨e, he, hb, rfl⟩)
          rw [← k3]
          exact ih k' k1 y k2
        rw [hr] at this
        cases this
  intro i hi
  obtain ⟨k, x, _, k2, rfl⟩ := done_at (hpl.mem i hi)
  exact key k x k2
/-- A drawn region, in whatever order. -/
theorem Inv.all (hpl : PlanOK T n ops l up early) (hT : TabOK T) (hcb : CBOK P cb) : ∀ (k p : Nat) (L : Array Bool) (a : Go.Act) (w : World) (r : Pl) (b : Go.Act) (t : En) (S : Tr) (nx : Nat) (G : GL) (B : Nat → Nat), cnt L = k →
    Inv T n ops l early cb Q r0 w0 p L a w r b t S nx G B → wpAny P .any ops Q k L a w
  | 0, p, L, a, w, r, b, t, S, nx, G, B, hk, hI => by
    have hall : ∀ i, i < ops.size → L.getD i false = true := fun i hi => cnt_zero hk (by rw [hI.len]; exact hi)
    refine ⟨?_, hI.finish hpl hT hall⟩
    rw [List.eq_nil_iff_forall_not_mem]
    intro i hi
    obtain ⟨h1, o, ho, _⟩ := mem_ready.1 hi
    have hlt := (Array.getElem?_eq_some_iff.1 ho).1
    have h2 := hall i hlt
    have hiL : i < L.size := by rw [hI.len]; exact hlt
    simp [Array.getD_eq_getD_getElem?, hiL] at h1 h2
    rw [h1] at h2
    cases h2
  | k + 1, p, L, a, w, r, b, t, S, nx, G, B, hk, hI => by
    refine ⟨fun hr => hI.finish hpl hT (hI.some_ready hpl hr), fun i hi => ?_⟩
    obtain ⟨h1, o, ho, hdep⟩ := mem_ready.1 hi
    have hlt := (Array.getElem?_eq_some_iff.1 ho).1
    have hiL : i < L.size := by rw [hI.len]; exact hlt
    have hL : L.getD i false = false := by simpa [Array.getD_eq_getD_getElem?, hiL] using h1
    have hw : ∀ j, Waits o j → L.getD j false = true := by
      rintro j ⟨e, he, hb, rfl⟩
      exact hdep e he hb
    have hcnt : cnt (L.setIfInBounds i true) = k := by have := cnt_set hiL hL; omega
    obtain ⟨p', r', b', t', S', nx', G', h, hs⟩ := hI.stable hpl hT (l.length - p) p r b t S nx G rfl
    by_cases hD : Done l p' i
    · exact h.take hpl ho hD hL hw fun v hI' => Inv.all hpl hT hcb k _ _ _ _ _ _ _ _ _ _ _ hcnt hI'
    · rcases hs with rfl | ⟨c, keep, hx, hLc⟩
      · exact absurd (hpl.mem i hlt) hD
      · by_cases hic : i = c
        · subst hic
          exact h.both hpl hT hcb hx ho hL hw fun a' w' r2 b2 t2 S2 nx2 hI' => Inv.all hpl hT hcb k _ _ _ _ _ _ _ _ _ _ _ hcnt hI'
        · have hwD : ∀ j, Waits o j → Done l p' j := by
            intro j hj
            refine Classical.byContradiction fun hnD => ?_
            have hLj := hw j hj
            obtain ⟨oj, hoj⟩ : ∃ oj, ops[j]? = some oj := by
              cases hq : ops[j]? with
              | some oj => exact ⟨oj, rfl⟩
              | none =>
                have : ¬ j < ops.size := fun hh => by rw [Array.getElem?_eq_getElem hh] at hq; cases hq
                have hjL : ¬ j < L.size := by rw [hI.len]; exact this
                simp [Array.getD_eq_getD_getElem?, hjL, Array.getElem?_eq_none] at hLj
            have hjc : j ≠ c := fun e => by rw [e, hLc] at hLj; cases hLj
            obtain ⟨_, hup⟩ := hpl.lead p' c keep hx j oj hoj hnD hjc (h.leadW j oj hoj hnD hLj)
            obtain ⟨o2, ho2, e, he1, he2⟩ := hpl.anc _ _ (hup i o ho hj)
            rw [ho] at ho2
            obtain rfl := Option.some.inj ho2
            have hLe := hw e he1
            have : L.getD c false = true := by
              rcases he2 with rfl | he2
              · exact hLe
              · exact anc_in' hpl (X := fun j => L.getD j false = true) (fun j o h ho i hw => hI.down j h o ho i hw) hLe he2
            rw [hLc] at this
            cases this
          obtain ⟨he, _⟩ := hpl.lead p' c keep hx i o ho hD hic hwD
          exact h.ahead hpl hT ho hD hL hw hwD he fun v w' B' hI' => Inv.all hpl hT hcb k _ _ _ _ _ _ _ _ _ _ _ hcnt hI'
/-- A DRAWN REGION IS RIGHT. -/
theorem any_ok (hpl : PlanOK T n ops l up early) (hT : TabOK T) (hm : P.follows .mixedOrders = true) (id : Nat) : Snd P n (runAny T n (some l) ops.toList).go (fun Q a w => (Code.region id ops true).wp P Q a w) := by
  intro cb hcb t S nx r w a Q hs he h
  have hdr : Upd (feet r) w (feet r) { w with drawn := w.drawn + 1 } := Upd.of_bel (Bel.drew w)
  have hs' : Sim r S nx { w with drawn := w.drawn + 1 } := hs.drew
  replace h : Good n r w Q ((runPlan T n ops.toList l).go cb t S nx []) := h
  have hget : ∀ i, (Array.replicate ops.size false).getD i false = false := fun i => by
    simp only [Array.getD_eq_getD_getElem?, Array.getElem?_replicate]
    split <;> rfl
  refine wp_region_any hm (Inv.all (r0 := r) (w0 := w) hpl hT hcb ops.size 0 _ a _ r a t S nx [] (fun _ => 0) ?_ ?_)
  · simp [cnt, List.countP_replicate]
  · have hno : ∀ i, ¬ Done l 0 i := fun i ⟨q, hq, _⟩ => by simp at hq
    refine ⟨Nat.zero_le _, by simp, ?_, Pl.le_refl r, hs', he, hdr, he.size, he.defers, fun d _ => rfl, ?_, ?_, ?_, ?_, ?_, ?_⟩
    · intro j hj; rw [hget] at hj; cases hj
    · intro i o _ hD; exact absurd hD (hno i)
    · intro i o _ _ hL; rw [hget] at hL; cases hL
    · intro i _ hL; rw [hget] at hL; cases hL
    · intro i o _ _ hL; rw [hget] at hL; cases hL
    · intro i j _ _ _ hL; rw [hget] at hL; cases hL
    · exact h
end Go.Proofs.YtgpkpheejefiiaaGreatDoor
end
section
set_option linter.unusedVariables false
set_option linter.unusedSimpArgs false
namespace Go.Proofs.YtgpkpheejefiiaaGreatDoor
open Go.RowKit
variable {P : Program}
noncomputable section
def upB (M : List Nat) (s j i : Nat) : Bool := (Nat.blt i s && Nat.blt j s) && bitOf i ((M[j]?).getD 0)
def waitsB (o : Oper) (i : Nat) : Bool := o.after.toList.any fun e => Region.binds .any e && Nat.beq e.on i
def doneB (l : List PI) (p i : Nat) : Bool := (l.take p).any fun q => Nat.beq q.i i
def noSelL (ops : Array Oper) : Bool := ops.toList.all fun o => match o.op with | .select .. => false | _ => true
def isS (l : List PI) (c : Nat) : Bool := l.any fun q => match q with | .s i _ => Nat.beq i c | _ => false
def isM (x : Ev) : Bool := match x with | .m _ => true | _ => false
def onOp (all : List Oper) (i : Nat) (k : Oper → Bool) : Bool := match all[i]? with | some o => k o | none => true
def hasOp (all : List Oper) (i : Nat) (k : Oper → Bool) : Bool := match all[i]? with | some o => k o | none => false
def earlyB (T : Tab P) (n : Nat) (all : List Oper) (l : List PI) (i : Nat) : Bool := hasOp all i fun o => (o.guard.isNone && isM (evOf T n o.op)) && isS l i
def rdB (T : Tab P) (n : Nat) (ops : Array Oper) (l : List PI) (M : List Nat) (E : List Nat) (c : Nat) : Bool := onOp ops.toList c fun oc => match oc.dst with
  | none => true
  | some d => (List.range ops.toList.length).all fun j => onOp ops.toList j fun oj => !((oj.looksAt ops).any (Nat.beq d)) || (upB M ops.toList.length j c || ((isS l c && !E.any (Nat.beq c)) && (Nat.beq j c || upB M ops.toList.length c j)))
def sB (ops : Array Oper) (l : List PI) (M E : List Nat) (p : Nat) : Bool := match l[p]? with
  | some (.s c keep) =>
    ((l.take p).all fun q => match q with | .l i flag => upB M ops.toList.length c i || ((keep.any (Nat.beq i) && flag) || (l.take p).any fun q => match q with | .s c' _ => upB M ops.toList.length c' i | _ => false) | _ => true) &&
    ((List.range ops.toList.length).all fun A => onOp ops.toList A fun oA => doneB l p A || (Nat.beq A c || (!(oA.after.toList.all fun e => !Region.binds .any e || doneB l p e.on) ||
      (E.any (Nat.beq A) && ((List.range ops.toList.length).all fun j => onOp ops.toList j fun oj => !waitsB oj A || upB M ops.toList.length j c)))))
  | _ => true
/-- THE CHECK. -/
def planB (T : Tab P) (n : Nat) (ops : Array Oper) (l : List PI) (M E : List Nat) : Bool :=
  noSelL ops &&
  ((List.range ops.toList.length).all (doneB l l.length) &&
  ((l.all fun q => Nat.blt q.i ops.toList.length) &&
  (((List.range l.length).all fun p => match l[p]? with | some x => !doneB l p x.i && onOp ops.toList x.i fun o => o.after.toList.all fun e => !Region.binds .any e || doneB l p e.on | none => true) &&
  (((List.range ops.toList.length).all fun j => (List.range ops.toList.length).all fun i => !upB M ops.toList.length j i || hasOp ops.toList j fun o => o.after.toList.any fun e => Region.binds .any e && (Nat.beq e.on i || upB M ops.toList.length e.on i)) &&
  (((List.range ops.toList.length).all fun i => (List.range ops.toList.length).all fun j => Nat.beq i j || onOp ops.toList i fun oi => onOp ops.toList j fun oj => match oi.dst, oj.dst with | some d, some d' => !Nat.beq d d' | _, _ => true) &&
  (((List.range ops.toList.length).all (rdB T n ops l M E)) &&
  ((E.all (earlyB T n ops.toList l)) &&
  ((List.range l.length).all (sB ops l M E)))))))))
end
theorem onOp_ok {all : List Oper} {i : Nat} {k : Oper → Bool} (h : onOp all i k = true) {o : Oper} (ho : all[i]? = some o) : k o = true := by
  unfold onOp at h
  rw [ho] at h
  exact h
theorem hasOp_ok {all : List Oper} {i : Nat} {k : Oper → Bool} (h : hasOp all i k = true) : ∃ o, all[i]? = some o ∧ k o = true := by
  unfold hasOp at h
  split at h
  · exact ⟨_, ‹_›, h⟩
  · cases h
theorem doneB_ok {l : List PI} {p i : Nat} : doneB l p i = true ↔ Done l p i := by
  unfold doneB Done
  rw [List.any_eq_true]
  constructor
  · rintro ⟨q, h1, h2⟩; exact ⟨q, h1, Nat.eq_of_beq_eq_true h2⟩
  · rintro ⟨q, h1, rfl⟩; exact ⟨q, h1, by simp⟩
theorem waitsB_ok {o : Oper} {i : Nat} : waitsB o i = true ↔ Waits o i := by
  unfold waitsB Waits
  rw [List.any_eq_true]
  constructor
  · rintro ⟨e, h1, h2⟩
    rw [Bool.and_eq_true] at h2
    exact ⟨e, by simpa using h1, h2.1, Nat.eq_of_beq_eq_true h2.2⟩
  · rintro ⟨e, h1, h2, rfl⟩
    exact ⟨e, by simpa using h1, by rw [h2]; simp⟩
theorem isS_ok {l : List PI} {c : Nat} (h : isS l c = true) : ∃ keep, PI.s c keep ∈ l := by
  unfold isS at h
  rw [List.any_eq_true] at h
  obtain ⟨q, h1, h2⟩ := h
  split at h2
  · rename_i i keep
    rw [← Nat.eq_of_beq_eq_true h2]
    exact ⟨keep, h1⟩
  · cases h2
theorem anyB {l : List Nat} {i : Nat} : l.any (Nat.beq i) = true ↔ i ∈ l := by
  rw [List.any_eq_true]
  constructor
  · rintro ⟨x, h1, h2⟩; rw [Nat.eq_of_beq_eq_true h2]; exact h1
  · intro h; exact ⟨i, h, by simp⟩
theorem allR {n : Nat} {k : Nat → Bool} (h : (List.range n).all k = true) {i : Nat} (hi : i < n) : k i = true := List.all_eq_true.1 h i (List.mem_range.2 hi)
theorem orB {a b : Bool} (h : (a || b) = true) : a = true ∨ b = true := by simpa using h
theorem andB {a b : Bool} (h : (a && b) = true) : a = true ∧ b = true := by simpa using h
theorem notB {a : Bool} (h : (!a) = true) : ¬ a = true := by simpa using h
theorem planB_ok {T : Tab P} {n : Nat} {ops : Array Oper} {l : List PI} {M E : List Nat} (h : planB T n ops l M E = true) : PlanOK T n ops l (fun j i => upB M ops.toList.length j i = true) (fun i => i ∈ E) := by
  unfold planB at h
  obtain ⟨h1, h⟩ := andB h
  obtain ⟨h2, h⟩ := andB h
  obtain ⟨h3, h⟩ := andB h
  obtain ⟨h4, h⟩ := andB h
  obtain ⟨h5, h⟩ := andB h
  obtain ⟨h6, h⟩ := andB h
  obtain ⟨h7, h⟩ := andB h
  obtain ⟨h8, h9⟩ := andB h
  have hop : ∀ {i : Nat} {o : Oper}, ops[i]? = some o → ops.toList[i]? = some o := fun {i o} h => by rw [Array.getElem?_toList]; exact h
  have hop' : ∀ {i : Nat} {o : Oper}, ops.toList[i]? = some o → ops[i]? = some o := fun {i o} h => by rw [← Array.getElem?_toList]; exact h
  have hlt : ∀ {i : Nat} {o : Oper}, ops[i]? = some o → i < ops.toList.length := fun {i o} h => (List.getElem?_eq_some_iff.1 (hop h)).1
  have hp : ∀ (p : Nat) (x : PI), l[p]? = some x → ¬ Done l p x.i ∧ ∀ o, ops[x.i]? = some o → ∀ i, Waits o i → Done l p i := fun p x hx => by
    have := allR h4 (List.getElem?_eq_some_iff.1 hx).1
    rw [hx] at this
    obtain ⟨a1, a2⟩ := andB this
    refine ⟨fun hd => notB a1 (doneB_ok.2 hd), fun o ho i hw => ?_⟩
    obtain ⟨e, he, hb, rfl⟩ := hw
    have := List.all_eq_true.1 (onOp_ok a2 (hop ho)) e (by simpa using he)
    rw [hb] at this
    exact doneB_ok.1 (by simpa using this)
  refine ⟨?_, fun i hi => doneB_ok.1 (allR h2 (by simpa using hi)), fun q hq => ?_, ?_, fun p x hx o ho => (hp p x hx).2 o ho, ?_, ?_, ?_, ?_, ?_, ?_⟩
  · rw [← h1]
    unfold Region.noSelect noSelL
    exact Array.all_toList.symm
  · have := List.all_eq_true.1 h3 q hq
    rw [blt_eq] at this
    simpa using this
  · intro p q x y hx hy e
    rcases Nat.lt_trichotomy p q with hh | hh | hh
    · exact absurd (done_of hh hx e) (hp q y hy).1
    · exact hh
    · exact absurd (done_of hh hy e.symm) (hp p x hx).1
  · intro j i hu
    have hu' := hu
    unfold upB at hu'
    obtain ⟨a1, a2⟩ := andB hu'
    obtain ⟨a3, a4⟩ := andB a1
    rw [blt_eq] at a3 a4
    have a5 := allR (allR h5 (of_decide_eq_true a4)) (of_decide_eq_true a3)
    rcases orB a5 with a5 | a5
    · exact absurd hu (notB a5)
    · obtain ⟨o, ho, a6⟩ := hasOp_ok a5
      obtain ⟨e, he, a7⟩ := List.any_eq_true.1 a6
      obtain ⟨b1, b2⟩ := andB a7
      exact ⟨o, hop' ho, e.on, ⟨e, by simpa using he, b1, rfl⟩, (orB b2).imp Nat.eq_of_beq_eq_true id⟩
  · intro i j oi oj d hi hj di dj
    rcases orB (allR (allR h6 (hlt hi)) (hlt hj)) with a | a
    · exact Nat.eq_of_beq_eq_true a
    · have := onOp_ok (onOp_ok a (hop hi)) (hop hj)
      rw [di, dj] at this
      exact absurd (show Nat.beq d d = true by simp) (notB this)
  · intro c oc d j oj hc dc hj hm
    have a := allR h7 (hlt hc)
    unfold rdB at a
    have a := onOp_ok a (hop hc)
    rw [dc] at a
    have a := onOp_ok (allR a (hlt hj)) (hop hj)
    rcases orB a with a | a
    · exact absurd (anyB.2 hm) (notB a)
    · rcases orB a with a | a
      · exact .inl a
      · obtain ⟨a1, a2⟩ := andB a
        obtain ⟨a3, a4⟩ := andB a1
        exact .inr ⟨isS_ok a3, fun he => notB a4 (anyB.2 he), (orB a2).imp Nat.eq_of_beq_eq_true id⟩
  · intro p c keep hx i flag hm
    have a := allR h9 (List.getElem?_eq_some_iff.1 hx).1
    unfold sB at a
    rw [hx] at a
    obtain ⟨a1, _⟩ := andB a
    have a1 := List.all_eq_true.1 a1 _ hm
    refine (orB a1).imp id (fun h => (orB h).imp (fun h => by obtain ⟨b1, b2⟩ := andB h; exact ⟨anyB.1 b1, b2⟩) (fun h => ?_))
    obtain ⟨q, hq, hqi⟩ := List.any_eq_true.1 h
    split at hqi
    · exact ⟨_, _, hq, hqi⟩
    · cases hqi
  · intro i hi
    have a := List.all_eq_true.1 h8 i hi
    unfold earlyB at a
    obtain ⟨o, ho, a⟩ := hasOp_ok a
    obtain ⟨a1, a2⟩ := andB a
    obtain ⟨a3, a4⟩ := andB a1
    unfold isM at a4
    split at a4
    · rename_i f hf
      exact ⟨o, f, hop' ho, by simpa using a3, hf, isS_ok a2⟩
    · cases a4
  · intro p c keep hx A oA hA hnd hne hw
    have a := allR h9 (List.getElem?_eq_some_iff.1 hx).1
    unfold sB at a
    rw [hx] at a
    obtain ⟨_, a2⟩ := andB a
    have a := onOp_ok (allR a2 (hlt hA)) (hop hA)
    have a := (orB a).resolve_left (fun h => hnd (doneB_ok.1 h))
    have a := (orB a).resolve_left (fun h => hne (Nat.eq_of_beq_eq_true h))
    have a := (orB a).resolve_left (fun h => notB h (List.all_eq_true.2 fun e he => by
      cases hb : Region.binds .any e with
      | false => rfl
      | true => simp; exact doneB_ok.2 (hw e.on ⟨e, by simpa using he, hb, rfl⟩)))
    obtain ⟨b1, b2⟩ := andB a
    refine ⟨anyB.1 b1, fun j oj hj hwj => ?_⟩
    exact (orB (onOp_ok (allR b2 (hlt hj)) (hop hj))).resolve_left (fun h => notB h (waitsB_ok.2 hwj))
end Go.Proofs.YtgpkpheejefiiaaGreatDoor
end
section
set_option linter.unusedVariables false
set_option linter.unusedSimpArgs false
namespace Go.Proofs.YtgpkpheejefiiaaGreatDoor
open Go.RowKit
variable {P : Program}
noncomputable section
/-- the makers of a region that may be taken early -/
def earlies (T : Tab P) (n : Nat) (all : List Oper) (l : List PI) : List Nat := (List.range all.length).filter fun i => earlyB T n all l i && hasOp all i fun o => !war all i o
def regB (T : Tab P) (n : Nat) (pl : Option (List PI)) (ops : Array Oper) : Bool := match pl with
  | some l => planB T n ops l (ancAll ops.toList) (earlies T n ops.toList l)
  | none => false
/-- all drawn regions of a piece of code that have a plan are planned rightly -/
def codeB (T : Tab P) (n : Nat) (pl : Nat → Option (List PI)) : Code → Bool
  | .region id ops true => (match pl id with | some l => planB T n ops l (ancAll ops.toList) (earlies T n ops.toList l) | none => true)
  | .seq a b => codeB T n pl a && codeB T n pl b
  | .cond _ a b => codeB T n pl a && codeB T n pl b
  | .block _ a => codeB T n pl a
  | .loop a => codeB T n pl a
  | _ => true
end
theorem codeB_ok {T : Tab P} (hT : TabOK T) (hm : P.follows .mixedOrders = true) {n : Nat} {pl : Nat → Option (List PI)} : ∀ (c : Code), codeB T n pl c = true → AnyOK T n pl c := by
  intro c
  induction c with
  | region id ops draw =>
    intro h
    cases draw with
    | false => trivial
    | true =>
      show Snd P n (runAny T n (pl id) ops.toList).go _
      unfold codeB at h
      cases hp : pl id with
      | none => intro cb hcb t S nx r w a Q hs he hg; exact hg.elim
      | some l =>
        rw [hp] at h
        exact any_ok (planB_ok h) hT hm id
  | seq a b iha ihb => intro h; unfold codeB at h; obtain ⟨h1, h2⟩ := andB h; exact ⟨iha h1, ihb h2⟩
  | cond x a b iha ihb => intro h; unfold codeB at h; obtain ⟨h1, h2⟩ := andB h; exact ⟨iha h1, ihb h2⟩
  | block i a ih => intro h; unfold codeB at h; exact ih h
  | loop a ih => intro h; unfold codeB at h; exact ih h
  | _ => intro _; trivial
end Go.Proofs.YtgpkpheejefiiaaGreatDoor
end
