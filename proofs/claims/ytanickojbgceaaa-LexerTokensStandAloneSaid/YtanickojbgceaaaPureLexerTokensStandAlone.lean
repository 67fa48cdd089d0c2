/- The law LexerTokensStandAlone, out of its printed text. -/
import Derived.Test.YtanickojbgceaaaP11
import Derived.Test.YtanickojbgceaaaFn04f
namespace Go.Proofs.Ytanickojbgceaaa.Fn04
open Go.RowKit Go.Proofs.Ytanickojbgceaaa.P Go.Proofs.YtanickojbgceaaaW.PrintWords Go.Proofs.YtanickojbgceaaaW.PrintLast Go.Proofs.YtanickojbgceaaaW.PrintMore Go.Proofs.Ytanickojbgceaaa.Math04 Go.Proofs.Ytanickojbgceaaa.Bs
set_option linter.unusedVariables false
set_option linter.unusedSimpArgs false
theorem alone_l {a : ByteArray} (h2 : a.size ≤ 2000) (all : List Tk) (hal : all.length ≤ 2000) (hall : ∀ t ∈ all, t.2.1 <:+ bs a ∧ (tok t.2.1).2.2.2 = 0 ∧ t = ((tok t.2.1).1, t.2.1, (tok t.2.1).2.1, (tok t.2.1).2.2.1)) (n : Nat) : ∀ (i : Nat), all.length - i ≤ n → i ≤ all.length →
    Ev (fun k => selfstablaw04_LexerTokensStandAlone.l0 k a (all.map (mk a)) (i : Int)) true := by
  have hml : ((all.map (mk a)).length : Int) = all.length := by rw [List.length_map]
  have stop : ∀ i : Nat, ¬ i < all.length → Ev (fun k => selfstablaw04_LexerTokensStandAlone.l0 k a (all.map (mk a)) (i : Int)) true := by
    intro i hi
    refine Ev.step (fun k => by simp only [selfstablaw04_LexerTokensStandAlone.l0]; rfl) ?_
    rw [hml]
    exact Pv.neg (by omega) (Ev.bind awake (Ev.now _))
  induction n with
  | zero => intro i hn hi; exact stop i (by omega)
  | succ n ih =>
    intro i hn hi
    by_cases hlt : i < all.length
    · obtain ⟨t, ht⟩ : ∃ t, all[i]? = some t := ⟨_, List.getElem?_eq_getElem hlt⟩
      have hmem : t ∈ all := List.mem_of_getElem? ht
      obtain ⟨hs, hok, he⟩ := hall t hmem
      have hrd := rd_map (a := a) ht
      generalize hr : t.2.1 = r at *
      subst he
      have htl := tok_len hok
      have hg := pos_ge hs
      have hpl : pos a r + (tok r).2.1 ≤ a.size := by
        have : pos a r + (tok r).2.1 = pos a (r.drop (tok r).2.1) := drop_pos htl.2
        rw [this]; exact pos_le a _
      have hb : bs (a.extract (pos a r).toNat (pos a r + (tok r).2.1).toNat) = r.take (tok r).2.1 := part hs htl.2
      obtain ⟨a1, a2⟩ := Lx.alone hok
      have hsz : (a.extract (pos a r).toNat (pos a r + (tok r).2.1).toNat).size = (tok r).2.1 := part_size hs htl.2
      have hle := le hs
      have z := lscan (a.extract (pos a r).toNat (pos a r + (tok r).2.1).toNat)
      rw [scan_ok (by omega) (by rw [hb, a1]; exact a2)] at z
      have e0 : pos (a.extract (pos a r).toNat (pos a r + (tok r).2.1).toNat) (r.take (tok r).2.1) = 0 := by rw [← hb, pos_all]
      refine Ev.step (fun k => by simp only [selfstablaw04_LexerTokensStandAlone.l0]; rfl) ?_
      rw [hml, hrd]
      refine Pv.pos (by omega) (Pv.pos (by omega) (Pv.neg (show ¬ pos a r < 0 by omega) (Pv.neg (show ¬ pos a r + (tok r).2.1 > (a.size : Int) by omega) ?_)))
      rw [decide_eq_false (show ¬ (mk a ((tok r).1, r, (tok r).2.1, (tok r).2.2.1)).f2 ≤ (mk a ((tok r).1, r, (tok r).2.1, (tok r).2.2.1)).f1 from (show ¬ pos a r + (tok r).2.1 ≤ pos a r by omega))]
      refine Ev.step (fun k => by simp only [selfstablaw04_LexerTokensStandAlone.j1]; rfl) ?_
      rw [hml, hrd]
      refine Pv.neg (by decide) (Pv.pos (by omega) (Pv.pos (by omega) (Pv.pos hg (Pv.pos (show pos a r ≤ pos a r + (tok r).2.1 by omega) (Pv.pos hpl (Ev.bind z (Pv.pos rfl (Pv.pos rfl (Pv.pos (show (0 : Int) < ((1 : Nat) : Int) by omega) ?_)))))))))
      have hw : wrap64 ((pos a r + ((tok r).2.1 : Int)) - pos a r) = (tok r).2.1 := by rw [Pv.w64 (by omega) (by omega)]; omega
      have hb2 : (!((tok r).1 == (tok r).1) || (!(pos (a.extract (pos a r).toNat (pos a r + (tok r).2.1).toNat) (r.take (tok r).2.1) == 0) || (!(pos (a.extract (pos a r).toNat (pos a r + (tok r).2.1).toNat) (r.take (tok r).2.1) + ((tok r).2.1 : Int) == wrap64 ((pos a r + ((tok r).2.1 : Int)) - pos a r)) || (!((tok r).2.2.1 == (tok r).2.2.1))))) = false := by
        rw [hw, e0]; simp
      show Ev (fun k => selfstablaw04_LexerTokensStandAlone.j2 k a (all.map (mk a)) (i : Int) (!((tok r).1 == (tok r).1) || (!(pos (a.extract (pos a r).toNat (pos a r + (tok r).2.1).toNat) (r.take (tok r).2.1) == 0) || (!(pos (a.extract (pos a r).toNat (pos a r + (tok r).2.1).toNat) (r.take (tok r).2.1) + ((tok r).2.1 : Int) == wrap64 ((pos a r + ((tok r).2.1 : Int)) - pos a r)) || (!((tok r).2.2.1 == (tok r).2.2.1)))))) true
      rw [hb2]
      refine Ev.step (fun k => by simp only [selfstablaw04_LexerTokensStandAlone.j2]; rfl) ?_
      refine Pv.neg (by decide) ?_
      rw [Pv.w64 (by omega) (by omega)]
      exact ih (i + 1) (by omega) (by omega)
    · exact stop i hlt
end Go.Proofs.Ytanickojbgceaaa.Fn04
namespace Go.Proofs.Ytanickojbgceaaa.Pure
open Go.RowKit Go.Proofs.Ytanickojbgceaaa.P Go.Proofs.YtanickojbgceaaaW.PrintWords Go.Proofs.YtanickojbgceaaaW.PrintLast Go.Proofs.YtanickojbgceaaaW.PrintMore Go.Proofs.Ytanickojbgceaaa.Math04 Go.Proofs.Ytanickojbgceaaa.Bs

theorem LexerTokensStandAlone : ∀ (a0 : ByteArray), a0.size ≤ maxLen → ∃ k, selfstablaw04_LexerTokensStandAlone.f k a0 = some true := by
  intro a0 _
  refine Ev.rounds (g := fun k => selfstablaw04_LexerTokensStandAlone.f k a0) ?_
  unfold selfstablaw04_LexerTokensStandAlone.f
  rcases Fn04.fair a0 with h | ⟨h2, h, ts, hx, hs⟩
  · exact Ev.bind h (Pv.neg (by decide) (Ev.bind Fn04.awake (Ev.now _)))
  · have z := Fn04.lscan a0
    rw [hs] at z
    refine Ev.bind h (Pv.pos (by trivial) (Ev.bind z (Pv.pos rfl ?_)))
    have hl := hx.len
    have hl2 := skipS_le false (bs a0)
    rw [bs_len] at hl2
    refine Fn04.alone_l h2 ts (by omega) (fun t ht => ?_) _ 0 (Nat.le_refl _) (Nat.zero_le _)
    obtain ⟨m1, m2, m3⟩ := hx.mem t ht
    exact ⟨m1.trans (Fn04.skip_all a0), m2, m3⟩

end Go.Proofs.Ytanickojbgceaaa.Pure
