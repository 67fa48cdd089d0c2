/- The law LexerCounts, out of its printed text. -/
import Derived.Test.YtanickojbgceaaaFn04e
namespace Go.Proofs.Ytanickojbgceaaa.Pure
open Go.RowKit Go.Proofs.Ytanickojbgceaaa.P Go.Proofs.YtanickojbgceaaaW.PrintWords Go.Proofs.YtanickojbgceaaaW.PrintLast Go.Proofs.YtanickojbgceaaaW.PrintMore
set_option linter.unusedVariables false
theorem counts_end (x : ByteArray) : Ev (fun k => selfstablaw04_LexerCounts.j1 k x) true := by
  refine Ev.step (fun k => by simp only [selfstablaw04_LexerCounts.j1]; rfl) ?_
  refine Ev.bind (Fn04.lscan x) (Ev.bind (Fn04.rscan x) (Ev.bind Fn04.awake (Pv.pos (by trivial) (Ev.bind (Fn04.same_refl _ (Fn04.scanR_len x)) (Pv.pos (by trivial) (Pv.pos rfl (Pv.as (Ev.now _) ?_)))))))
  exact beq_self_eq_true _
theorem counts_l (a0 : ByteArray) (a1 : Int) (h3 : a0.size ≤ 3) (n : Nat) : ∀ (x : ByteArray) (i : Int), (Int.tmod (wrap64 a1) 4200 - i).toNat ≤ n → 0 ≤ i → i ≤ 4300 → x.size ≤ 16394 → Ev (fun k => selfstablaw04_LexerCounts.l0 k a0 a1 x i) true := by
  have ht : Int.tmod (wrap64 a1) 4200 < 4200 := by
    have := Int.tmod_lt_of_pos (wrap64 a1) (show (0 : Int) < 4200 by omega)
    exact this
  induction n with
  | zero =>
    intro x i hn h0 h1 hx
    refine Ev.step (fun k => by simp only [selfstablaw04_LexerCounts.l0]; rfl) ?_
    exact Pv.neg (by omega) (counts_end x)
  | succ n ih =>
    intro x i hn h0 h1 hx
    refine Ev.step (fun k => by simp only [selfstablaw04_LexerCounts.l0]; rfl) ?_
    by_cases h : i < Int.tmod (wrap64 a1) 4200
    · have hs : (a0 ++ (⟨#[32]⟩ : ByteArray)).size = a0.size + 1 := by rw [ByteArray.size_append]; rfl
      have hs2 : (x ++ (a0 ++ (⟨#[32]⟩ : ByteArray))).size = x.size + (a0.size + 1) := by rw [ByteArray.size_append, hs]
      refine Pv.pos h (Pv.pos (by omega) (Pv.pos (by rw [hs]; omega) ?_))
      by_cases hz : ((x ++ (a0 ++ (⟨#[32]⟩ : ByteArray))).size : Int) > 16394
      · exact Pv.pos hz (counts_end _)
      · refine Pv.neg hz ?_
        rw [Pv.w64 (by omega) (by omega)]
        exact ih _ _ (by omega) (by omega) (by omega) (by omega)
    · exact Pv.neg h (counts_end x)

theorem LexerCounts : ∀ (a0 : ByteArray) (a1 : Int), a0.size ≤ maxLen → (Lit.int .u16 a1).wf = true → ∃ k, selfstablaw04_LexerCounts.f k a0 a1 = some true := by
  intro a0 a1 _ hw
  refine Ev.rounds (g := fun k => selfstablaw04_LexerCounts.f k a0 a1) ?_
  unfold selfstablaw04_LexerCounts.f
  by_cases h1 : (a0.size : Int) > 3
  · exact Pv.pos h1 (Ev.bind Fn04.awake (Ev.now _))
  · exact Pv.neg h1 (counts_l a0 a1 (by omega) _ _ _ (Nat.le_refl _) (by omega) (by omega) (by decide))

end Go.Proofs.Ytanickojbgceaaa.Pure
