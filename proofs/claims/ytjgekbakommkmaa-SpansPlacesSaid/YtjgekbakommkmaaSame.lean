/- Spans: the walk of same, at equal lists. -/
import Derived.Test.YtjgekbakommkmaaSplQ
set_option linter.unusedVariables false
set_option linter.unusedSimpArgs false
namespace Go.Proofs.Ytjgekbakommkmaa
open Go.RowKit Go.Proofs.YtjgekbakommkmaaW.PrintWords Go.Proofs.YtjgekbakommkmaaW.PrintMore
open PSpansChange Pl
theorem eqA31 (d : Nat) (w : World) (x0 y0 : Int) (x1 y1 : Int) :
    (Op.equalIn (d + 2) 31 (.agg #[.int .i64 x0, .int .i64 x1]) (.agg #[.int .i64 y0, .int .i64 y1])).run Try.prog w = .ok (x0 == y0 && (x1 == y1)) w := by
  refine eqA_of Try.underlying31 (by kernel_rfl) ?_
  refine eqf_cons (by rfl) (by go_simp; rfl) (by go_simp; rfl) (by go_simp) ?_
  exact eqf_last (by rfl) (by go_simp; rfl) (by go_simp; rfl) (by go_simp)
attribute [local go_sem high] eqA31
theorem at31 {w : World} {A : Option Addr} {n : Nat} {l : List Sp} (h : Kd.C k31 w A n (m31 l)) (i : Nat) (h1 : i < n) : ∃ ad, A = some ad ∧ w.cell? (ad.add (i * 2)) = some (.int .i64 (nth l i).1) ∧ w.cell? ⟨(ad.add (i * 2)).block, (ad.add (i * 2)).off + 1, none⟩ = some (.int .i64 (nth l i).2) := by
  obtain ⟨ad, e, x0, x1⟩ := at_T31 h (i : Int) (by omega) (by omega)
  rw [rd31 _ _ (by omega)] at x0 x1
  exact ⟨ad, e, by simpa using x0, by simpa using x1⟩
set_option maxHeartbeats 8000000 in
set_option maxRecDepth 100000 in
theorem sameB (A : Option Addr) (c : Nat) (A' : Option Addr) (c' : Nat) (l : List Sp) (hlen : l.length ≤ 4000000) (hc : l.length ≤ c) (hc' : l.length ≤ c') (w : World) (hC : Kd.C k30 w A l.length (m30 l)) (hC' : Kd.C k31 w A' l.length (m31 l)) :
    Calls Try.prog 15 #[.slice A l.length c, .slice A' l.length c'] w fun e w' => e = .returned (.bool true) ∧ Bel w w' := by
  have HC := Lib.hid hC
  have HC' := Lib.hid hC'
  clear hC hC'
  go_enter Try.func15, Try.ntmps15
  go_wp2_with fail
  go_loopw [13] (fun v13 wr => ∃ (k : Nat), v13 = .int .i64 k ∧ k ≤ l.length ∧ Hid (Bel w wr)) (fun v13 _ => l.length - (intOf v13).toNat)
  case atStart => exact ⟨0, rfl, by omega, Lib.hid (Bel.refl _)⟩
  case round =>
    obtain ⟨wo, rfl⟩ : ∃ wo : World, wo = wr := ⟨_, rfl⟩
    obtain ⟨k, rfl, hk, HI⟩ := hrel
    by_cases hlt : k < l.length
    · obtain ⟨ad, he, x0, x1⟩ := at30 (Kd.C_below HC.out HI.out) k hlt
      obtain ⟨ad', he', y0, y1⟩ := at31 (Kd.C_below HC'.out HI.out) k hlt
      subst he he'
      generalize nth l k = t at *
      obtain ⟨t0, t1⟩ := t
      simp only [] at x0 x1 y0 y1
      have hlt' : (k : Int) < (l.length : Int) := by omega
      have hrf0 : (t0 == t0) = true := by simp
      have hrf1 : (t1 == t1) = true := by simp
      go_wp2_with fail
      go_quiet (fail)
      have hfin : Hid (Bel w (wo.drewN nq)) := Lib.hid (HI.out.trans (Bel.drewN wo nq))
      clear HI x0 x1 y0 y1
      generalize wo.drewN nq = W at *
      go_wp2_with fail
      exact ⟨⟨k + 1, by congr 1, by omega, hfin⟩, by simp [intOf]; omega⟩
    · have hb := HI.out
      clear HI
      go_wp2_with fail
      go_ret
      exact ⟨rfl, hb⟩
end Go.Proofs.Ytjgekbakommkmaa
