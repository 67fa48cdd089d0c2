/- The law LexerScans, out of its printed text. -/
import Derived.Test.YtanickojbgceaaaFn04e
namespace Go.Proofs.Ytanickojbgceaaa.Pure
open Go.RowKit Go.Proofs.Ytanickojbgceaaa.P Go.Proofs.YtanickojbgceaaaW.PrintWords Go.Proofs.YtanickojbgceaaaW.PrintLast Go.Proofs.YtanickojbgceaaaW.PrintMore
set_option linter.unusedVariables false

theorem LexerScans : ∀ (a0 : ByteArray), a0.size ≤ maxLen → ∃ k, selfstablaw04_LexerScans.f k a0 = some true := by
  intro a0 _
  have no : Ev (fun k => selfstablaw04_LexerScans.j0 k a0 true) true := by
    refine Ev.step (fun k => by simp only [selfstablaw04_LexerScans.j0]; rfl) ?_
    exact Pv.pos (by trivial) (Ev.bind Fn04.awake (Ev.now _))
  have yes : Ev (fun k => selfstablaw04_LexerScans.j0 k a0 false) true := by
    refine Ev.step (fun k => by simp only [selfstablaw04_LexerScans.j0]; rfl) ?_
    refine Pv.neg (by decide) ?_
    refine Ev.bind (Fn04.lscan a0) (Ev.bind (Fn04.rscan a0) (Ev.bind Fn04.awake (Pv.pos (by trivial) (Ev.bind (Fn04.same_refl _ (Fn04.scanR_len a0)) (Pv.pos (by trivial) (Pv.pos rfl (Pv.as (Ev.now _) ?_)))))))
    exact beq_self_eq_true _
  refine Ev.rounds (g := fun k => selfstablaw04_LexerScans.f k a0) ?_
  unfold selfstablaw04_LexerScans.f
  by_cases h1 : (a0.size : Int) > 2000
  · refine Pv.pos h1 ?_
    by_cases h2 : (a0.size : Int) ≤ 16384
    · exact Pv.pos h2 no
    · refine Pv.neg h2 ?_
      by_cases h3 : (a0.size : Int) > 16484
      · rw [decide_eq_true h3]; exact no
      · rw [decide_eq_false h3]; exact yes
  · exact Pv.neg h1 yes

end Go.Proofs.Ytanickojbgceaaa.Pure
