/- The row of the law TermGrows, out of its pure statement and the walk. -/
import Derived.Test.YtbjigmgiecgolaaRows
import Derived.Test.YtbjigmgiecgolaaP9
import Derived.Test.YtbjigmgiecgolaaPureTermGrows
import Derived.Test.YtbjigmgiecgolaaOpen
import Derived.WalkKit
import Derived.ProofKit
import Derived.OpenShut
import Derived.ShutString
import Derived.ChangeOld
import Derived.Below
import Derived.SizedLaws
import Derived.KernelRfl
namespace Go.Proofs.Ytbjigmgiecgolaa.termGrows
open Go.ChangeShapes Go.WideShapes Go.ChangeAt Go.RowKit
open Go.ChangeMaps (open_string shut_string)
open Go.Proofs.Ytbjigmgiecgolaa.P Go.Proofs.YtbjigmgiecgolaaW.PrintWords Go.Proofs.YtbjigmgiecgolaaW.PrintLast
set_option linter.unusedVariables false
theorem own : ownKnob Try.prog.godebug = none := by kernel_rfl
theorem laidOut : laidOutB Try.prog = true := by kernel_rfl
theorem opens31 {W : World} {H : Type} {enc : TypeId × Value → H} : Open.Opens Try.prog W enc 31 k31 (fun x => ((Lit.int .i64 x.f0).wf = true ∧ (Lit.int .i64 x.f1).wf = true)) :=
  Open.Opens.struct (fun x : S31 => (x.f0, x.f1)) (fun a => ⟨a.1, a.2⟩) (fun _ => rfl) Try.underlying31 (by kernel_rfl) (Open.OpensF.cons rfl rfl (Open.Opens.int Try.underlying3 (by kernel_rfl)) (Open.OpensF.one rfl rfl (Open.Opens.int Try.underlying3 (by kernel_rfl))) (by kernel_rfl)) (fun _ h => h)
set_option maxRecDepth 100000 in
theorem lifted (os : Os) (started : os.Started) (H : Type) (enc : TypeId × Value → H) :
    ReturnsInHanded {} Try.checked os 6 .any (Rows.termGrowsSpec.pre6 enc Try.prog Try.f6 Rows.termGrowsRow.domain false) (Rows.termGrowsSpec.post enc Try.prog Try.f6 false true false false) := by
  refine returnsInHanded_of_change_sized (C := Try.checked) own started (by kernel_rfl) Try.func6
    (ChangeSpec.witness6 (enc := enc) (C := Try.checked) false ⟨#[], #[.int .i64 0, .slice none 0 0, .slice none 0 0, .slice none 0 0], []⟩ 8 (by kernel_rfl) (by kernel_rfl) (by kernel_rfl) (by kernel_rfl)) ?_
  intro W base args ds gs before hval0 hW hcnd hsz0 _
  have hval : ∀ (j : Nat) t v, Try.f6.params[j]? = some t → args[j]? = some v → Value.okWide Try.prog W .any base t v := hval0
  have hW' := hW
  obtain ⟨p, q, hA0, hV, rfl, hfz, hnd⟩ := hW
  have hA : DataW.TrodAll enc Try.prog W 0 (fun _ => true) true Try.f6.params.toList args.toList ds p := hA0
  rw [Try.params6] at hA hval
  obtain ⟨v0, vs0, d0, ds0, p0, q0, hargs, rfl, rfl, h0, r0⟩ := trodAll_cons hA
  obtain ⟨v1, vs1, d1, ds1, p1, q1, rfl, rfl, rfl, h1, r1⟩ := trodAll_cons r0
  obtain ⟨v2, vs2, d2, ds2, p2, q2, rfl, rfl, rfl, h2, r2⟩ := trodAll_cons r1
  obtain ⟨v3, vs3, d3, ds3, p3, q3, rfl, rfl, rfl, h3, r3⟩ := trodAll_cons r2
  obtain ⟨rfl, rfl, rfl⟩ := trodAll_nil r3
  obtain rfl : args = #[v0, v1, v2, v3] := by cases args; simp_all
  obtain ⟨rfl, rfl⟩ := trodVars_none hV
  obtain ⟨a0, rfl, rfl, rfl, w0⟩ := open_int Try.underlying3 (hval 0 3 v0 rfl rfl) h0
  have k1_ := h1
  have lt1 : ∀ x ∈ p1, x.block < W.heap.size := by obtain ⟨m, hm⟩ := k1_; exact DataW.trod_lt m _ _ _ hm
  obtain ⟨A1, c1, l1, rfl, hc1, hr1, hm1, hw1⟩ := Open.open_slice Try.underlying22 (by kernel_rfl) opens31 (hval 1 22 v1 rfl rfl) h1
  have k2_ := h2
  have lt2 : ∀ x ∈ p2, x.block < W.heap.size := by obtain ⟨m, hm⟩ := k2_; exact DataW.trod_lt m _ _ _ hm
  obtain ⟨A2, c2, l2, rfl, hc2, hr2, hm2, hw2⟩ := Open.open_slice Try.underlying22 (by kernel_rfl) opens31 (hval 2 22 v2 rfl rfl) h2
  have k3_ := h3
  have lt3 : ∀ x ∈ p3, x.block < W.heap.size := by obtain ⟨m, hm⟩ := k3_; exact DataW.trod_lt m _ _ _ hm
  obtain ⟨A3, c3, l3, rfl, hc3, hr3, hm3, hw3⟩ := Open.open_slice Try.underlying22 (by kernel_rfl) opens31 (hval 3 22 v3 rfl rfl) h3
  clear hA0 hval0 hsz0
  obtain ⟨k, hk_⟩ := Pure.TermGrows a0 l1 l2 l3 w0 ⟨hm1, hw1⟩ ⟨hm2, hw2⟩ ⟨hm3, hw3⟩
  refine (selfstablaw05_TermGrows.calls k a0 _ _ l1 _ _ l2 _ _ l3 true W hr1 hc1 hr2 hc2 hr3 hc3 hk_).mono fun e W' ⟨he, bel0⟩ => ?_
  have bel := bel0
  subst he
  exact ⟨_, rfl, _, _, _, [], _, [], hW', trodAll_mk1 (shut_bool Try.underlying4 _), (trodAll_cons_mk (shut_int Try.underlying3 w0) (trodAll_cons_mk (Below.trod laidOut (by kernel_rfl) (of_decide_eq_true (by kernel_rfl)) k1_ bel lt1) (trodAll_cons_mk (Below.trod laidOut (by kernel_rfl) (of_decide_eq_true (by kernel_rfl)) k2_ bel lt2) (trodAll_cons_mk (Below.trod laidOut (by kernel_rfl) (of_decide_eq_true (by kernel_rfl)) k3_ bel lt3) trodAll_mk0)))), rfl, bel.frame _, fun h => by cases h⟩
theorem over : Rows.termGrowsRow.holds Try.pinned (OpenSpec.ofChange Rows.termGrowsSpec) :=
  OpenClaim.holds_of_wide 6 Try.f6 rfl rfl rfl rfl rfl rfl rfl ⟨rfl, rfl, rfl, rfl, rfl⟩ rfl rfl rfl rfl rfl (by kernel_rfl) Try.func6 (by kernel_rfl)
    (of_decide_eq_true (by kernel_rfl)) (by unfold Func.isWrapper; first | (rw [if_pos (by decide +kernel)]; kernel_rfl) | (rw [if_neg (by decide +kernel)]; exact ⟨rfl, rfl⟩))
    (fun os started H enc _ => lifted os started H enc)
theorem proved : Rows.TermGrowsSaid := over
#print axioms proved
end Go.Proofs.Ytbjigmgiecgolaa.termGrows
namespace Go.Proofs.Ytbjigmgiecgolaa
/-- The row, under a short name, for the claim. -/
theorem termGrows_holds : Rows.TermGrowsSaid := termGrows.proved
end Go.Proofs.Ytbjigmgiecgolaa
