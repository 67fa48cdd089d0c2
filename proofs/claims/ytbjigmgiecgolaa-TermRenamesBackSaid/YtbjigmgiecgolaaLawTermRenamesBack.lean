/- The row of the law TermRenamesBack, out of its pure statement and the walk. -/
import Derived.Test.YtbjigmgiecgolaaRows
import Derived.Test.YtbjigmgiecgolaaP13
import Derived.Test.YtbjigmgiecgolaaPureTermRenamesBack
import Derived.Test.YtbjigmgiecgolaaOpen
import Derived.WalkKit
import Derived.ProofKit
import Derived.OpenShut
import Derived.ShutString
import Derived.ChangeOld
import Derived.Below
import Derived.SizedLaws
import Derived.KernelRfl
namespace Go.Proofs.Ytbjigmgiecgolaa.termRenamesBack
open Go.ChangeShapes Go.WideShapes Go.ChangeAt Go.RowKit
open Go.ChangeMaps (open_string shut_string)
open Go.Proofs.Ytbjigmgiecgolaa.P Go.Proofs.YtbjigmgiecgolaaW.PrintWords Go.Proofs.YtbjigmgiecgolaaW.PrintLast
set_option linter.unusedVariables false
theorem own : ownKnob Try.prog.godebug = none := by kernel_rfl
theorem laidOut : laidOutB Try.prog = true := by kernel_rfl
theorem opens31 {W : World} {H : Type} {enc : TypeId × Value → H} : Open.Opens Try.prog W enc 31 k31 (fun x => ((Lit.int .i64 x.f0).wf = true ∧ (Lit.int .i64 x.f1).wf = true)) :=
  Open.Opens.struct (fun x : S31 => (x.f0, x.f1)) (fun a => ⟨a.1, a.2⟩) (fun _ => rfl) Try.underlying31 (by kernel_rfl) (Open.OpensF.cons rfl rfl (Open.Opens.int Try.underlying3 (by kernel_rfl)) (Open.OpensF.one rfl rfl (Open.Opens.int Try.underlying3 (by kernel_rfl))) (by kernel_rfl)) (fun _ h => h)
set_option maxRecDepth 100000 in
theorem lifted (os : Os) (started : os.Started) (H : Type) (enc : TypeId × Value → H) :
    ReturnsInHanded {} Try.checked os 9 .any (Rows.termRenamesBackSpec.pre6 enc Try.prog Try.f9 Rows.termRenamesBackRow.domain false) (Rows.termRenamesBackSpec.post enc Try.prog Try.f9 false true false false) := by
  refine returnsInHanded_of_change_sized (C := Try.checked) own started (by kernel_rfl) Try.func9
    (ChangeSpec.witness6 (enc := enc) (C := Try.checked) false ⟨#[], #[.slice none 0 0, .slice none 0 0], []⟩ 8 (by kernel_rfl) (by kernel_rfl) (by kernel_rfl) (by kernel_rfl)) ?_
  intro W base args ds gs before hval0 hW hcnd hsz0 _
  have hval : ∀ (j : Nat) t v, Try.f9.params[j]? = some t → args[j]? = some v → Value.okWide Try.prog W .any base t v := hval0
  have hW' := hW
  obtain ⟨p, q, hA0, hV, rfl, hfz, hnd⟩ := hW
  have hA : DataW.TrodAll enc Try.prog W 0 (fun _ => true) true Try.f9.params.toList args.toList ds p := hA0
  rw [Try.params9] at hA hval
  obtain ⟨v0, vs0, d0, ds0, p0, q0, hargs, rfl, rfl, h0, r0⟩ := trodAll_cons hA
  obtain ⟨v1, vs1, d1, ds1, p1, q1, rfl, rfl, rfl, h1, r1⟩ := trodAll_cons r0
  obtain ⟨rfl, rfl, rfl⟩ := trodAll_nil r1
  obtain rfl : args = #[v0, v1] := by cases args; simp_all
  obtain ⟨rfl, rfl⟩ := trodVars_none hV
  have k0_ := h0
  have lt0 : ∀ x ∈ p0, x.block < W.heap.size := by obtain ⟨m, hm⟩ := k0_; exact DataW.trod_lt m _ _ _ hm
  obtain ⟨A0, c0, l0, rfl, hc0, hr0, hm0, hw0⟩ := Open.open_slice Try.underlying22 (by kernel_rfl) opens31 (hval 0 22 v0 rfl rfl) h0
  have k1_ := h1
  have lt1 : ∀ x ∈ p1, x.block < W.heap.size := by obtain ⟨m, hm⟩ := k1_; exact DataW.trod_lt m _ _ _ hm
  obtain ⟨A1, c1, l1, rfl, hc1, hr1, hm1, hw1⟩ := Open.open_slice Try.underlying37 (by kernel_rfl) (Open.Opens.int Try.underlying3 (by kernel_rfl)) (hval 1 37 v1 rfl rfl) h1
  clear hA0 hval0 hsz0
  obtain ⟨k, hk_⟩ := Pure.TermRenamesBack l0 l1 ⟨hm0, hw0⟩ ⟨hm1, hw1⟩
  refine (selfstablaw05_TermRenamesBack.calls k _ _ l0 _ _ l1 true W hr0 hc0 hr1 hc1 hk_).mono fun e W' ⟨he, bel0⟩ => ?_
  have bel := bel0
  subst he
  exact ⟨_, rfl, _, _, _, [], _, [], hW', trodAll_mk1 (shut_bool Try.underlying4 _), (trodAll_cons_mk (Below.trod laidOut (by kernel_rfl) (of_decide_eq_true (by kernel_rfl)) k0_ bel lt0) (trodAll_cons_mk (Below.trod laidOut (by kernel_rfl) (of_decide_eq_true (by kernel_rfl)) k1_ bel lt1) trodAll_mk0)), rfl, bel.frame _, fun h => by cases h⟩
theorem over : Rows.termRenamesBackRow.holds Try.pinned (OpenSpec.ofChange Rows.termRenamesBackSpec) :=
  OpenClaim.holds_of_wide 9 Try.f9 rfl rfl rfl rfl rfl rfl rfl ⟨rfl, rfl, rfl, rfl, rfl⟩ rfl rfl rfl rfl rfl (by kernel_rfl) Try.func9 (by kernel_rfl)
    (of_decide_eq_true (by kernel_rfl)) (by unfold Func.isWrapper; first | (rw [if_pos (by decide +kernel)]; kernel_rfl) | (rw [if_neg (by decide +kernel)]; exact ⟨rfl, rfl⟩))
    (fun os started H enc _ => lifted os started H enc)
theorem proved : Rows.TermRenamesBackSaid := over
#print axioms proved
end Go.Proofs.Ytbjigmgiecgolaa.termRenamesBack
namespace Go.Proofs.Ytbjigmgiecgolaa
/-- The row, under a short name, for the claim. -/
theorem termRenamesBack_holds : Rows.TermRenamesBackSaid := termRenamesBack.proved
end Go.Proofs.Ytbjigmgiecgolaa
