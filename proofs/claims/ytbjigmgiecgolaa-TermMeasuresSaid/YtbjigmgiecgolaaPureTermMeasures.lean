/- TermMeasures: for every list of terms and all numbers the law answers true: Arity, End, Operand, Depth and Nest of term and of its reference are the same. -/
import Derived.Test.YtbjigmgiecgolaaFn05b
namespace Go.Proofs.Ytbjigmgiecgolaa.Pure
open Go.RowKit Go.Proofs.Ytbjigmgiecgolaa.P Go.Proofs.YtbjigmgiecgolaaW.PrintWords Go.Proofs.YtbjigmgiecgolaaW.PrintLast Go.Proofs.Ytbjigmgiecgolaa.Fn05 Go.Proofs.Ytbjigmgiecgolaa.Math05

theorem awake05 : Ev (fun k => selfstablaw05_awake.f k) true := Ev.of selfstablaw05_awake.mono (k := 40) (by decide +kernel)

theorem TermMeasures : ∀ (l0 : List (S31)) (a1 : Int) (a2 : Int) (a3 : Int), (l0.length ≤ maxLen ∧ ∀ y0 ∈ l0, ((Lit.int .i64 y0.f0).wf = true ∧ (Lit.int .i64 y0.f1).wf = true)) → (Lit.int .i64 a1).wf = true → (Lit.int .i64 a2).wf = true → (Lit.int .i64 a3).wf = true → ∃ k, selfstablaw05_TermMeasures.f k l0 a1 a2 a3 = some true := by
  intro l a b c _ _ _ _
  refine Ev.rounds ?_
  refine Pv.const_bind (x := decide ((l.length : Int) ≤ 250)) rfl ?_
  by_cases h : (l.length : Int) ≤ 250
  · rw [decide_eq_true h]
    refine Pv.pos rfl (Ev.bind awake05 (Pv.pos rfl ?_))
    refine Ev.bind (arity a) (Ev.bind (rarity a) (Pv.pos rfl ?_))
    refine Ev.bind (tend l (by omega) b) (Ev.bind (rend l (by omega) b) (Pv.pos rfl ?_))
    refine Ev.bind (topd l (by omega) b c) (Ev.bind (ropd l (by omega) b c) (Pv.pos rfl ?_))
    refine Ev.bind (tdepth l (by omega)) (Ev.bind (rdepth l (by omega)) (Pv.pos rfl ?_))
    refine Ev.bind (tnest l (by omega)) (Ev.bind (rnest l (by omega)) (Pv.as (Ev.now _) ?_))
    exact beq_self_eq_true _
  · rw [decide_eq_false h]
    exact Pv.neg (by decide) (Ev.bind awake05 (Ev.now _))

end Go.Proofs.Ytbjigmgiecgolaa.Pure
