/- TermCutsAreIncomplete: for every list of terms, every number and every term the law answers true: no proper beginning of an expression is one, and neither is an expression with a term behind it. -/
import Derived.Test.YtbjigmgiecgolaaFn05c
import Derived.Test.YtbjigmgiecgolaaP10
namespace Go.Proofs.Ytbjigmgiecgolaa.Pure
open Go.RowKit Go.Proofs.Ytbjigmgiecgolaa.P Go.Proofs.YtbjigmgiecgolaaW.PrintWords Go.Proofs.YtbjigmgiecgolaaW.PrintLast Go.Proofs.Ytbjigmgiecgolaa.Fn05 Go.Proofs.Ytbjigmgiecgolaa.Math05

theorem awake05c : Ev (fun k => selfstablaw05_awake.f k) true := Ev.of selfstablaw05_awake.mono (k := 40) (by decide +kernel)
theorem validS_not {l : List S31} {v : Int} (h : ¬ Exs opS 1 l) : validS l v = false := by
  rw [Bool.eq_false_iff]
  intro hv
  exact h ((validS_iff l v).1 hv).2.1

theorem TermCutsAreIncomplete : ∀ (l0 : List (S31)) (a1 : Int) (x2 : S31), (l0.length ≤ maxLen ∧ ∀ y0 ∈ l0, ((Lit.int .i64 y0.f0).wf = true ∧ (Lit.int .i64 y0.f1).wf = true)) → (Lit.int .i64 a1).wf = true → ((Lit.int .i64 x2.f0).wf = true ∧ (Lit.int .i64 x2.f1).wf = true) → ∃ k, selfstablaw05_TermCutsAreIncomplete.f k l0 a1 x2.f0 x2.f1 = some true := by
  intro l a x _ ha _
  have ha' := Pv.wf64 ha
  refine Ev.rounds ?_
  have idle : Ev (fun k => selfstablaw05_TermCutsAreIncomplete.j0 k l a true x.f0 x.f1) true :=
    Ev.step (fun k => by simp only [selfstablaw05_TermCutsAreIncomplete.j0]; rfl) (Pv.pos (by trivial) (Ev.bind awake05c (Ev.now _)))
  refine Pv.const_bind (x := decide ((l.length : Int) ≤ 250)) rfl ?_
  by_cases h : (l.length : Int) ≤ 250
  · rw [decide_eq_true h]
    refine Pv.pos rfl (Ev.bind (rdepth l (by omega)) ?_)
    by_cases hd : dep l = 0
    · rw [hd]; exact idle
    · rw [beq_eq_false_iff_ne.2 hd]
      have hx : Exs opS 1 l := Classical.byContradiction fun hn => hd (dep_zero.2 hn)
      have hne : 0 < l.length := List.length_pos_iff.2 (hx.ne_nil opS)
      obtain ⟨r, hr, hr0, hr1⟩ := modS a (l.length : Int) ha'.1 ha'.2 (by omega) (by omega)
      obtain ⟨j, rfl⟩ := Int.eq_ofNat_of_zero_le hr0
      have hcut : ¬ Exs opS 1 (l.take j) := by
        intro hc
        have h1 := skip_of_Exs' opS hc []
        rw [List.append_nil] at h1
        have h2 := skip_append opS h1 (l.drop j)
        rw [List.take_append_drop, List.nil_append] at h2
        have h3 := skip_of_Exs' opS hx []
        rw [List.append_nil, h2] at h3
        injection h3 with h3
        have := congrArg List.length h3
        rw [List.length_drop] at this
        simp at this
        omega
      have hlong : ¬ Exs opS 1 (l ++ [x]) := by
        intro hc
        have h1 := skip_of_Exs' opS hc []
        rw [List.append_nil, skip_of_Exs' opS hx] at h1
        simp at h1
      have e1 : endS (l.take j) 0 = -1 := by
        have hs : skip opS (l.take j) 1 = none := by
          cases hs : skip opS (l.take j) 1 with
          | none => rfl
          | some r =>
            exfalso
            have h2 := skip_append opS hs (l.drop j)
            rw [List.take_append_drop] at h2
            have h3 := skip_of_Exs' opS hx []
            rw [List.append_nil, h2] at h3
            injection h3 with h3
            have := congrArg List.length h3
            rw [List.length_append, List.length_drop] at this
            simp at this
            omega
        show (match skip opS ((l.take j).drop 0) 1 with | some r => _ | none => _) = _
        rw [List.drop_zero, hs]
      have e2 : endS (l ++ [x]) 0 = l.length := by
        have hs := skip_of_Exs' opS hx [x]
        show (match skip opS ((l ++ [x]).drop 0) 1 with | some r => (((l ++ [x]).length : Nat) : Int) - r.length | none => _) = _
        rw [List.drop_zero, hs]
        simp
      refine Ev.step (fun k => by simp only [selfstablaw05_TermCutsAreIncomplete.j0]; rfl) (Pv.neg (by decide) ?_)
      refine Pv.const_bind hr (Pv.pos (by omega) (Pv.pos (by omega) (Pv.some_bind ?_)))
      rw [Int.toNat_natCast]
      refine Pv.pos (by simp; omega) (Pv.some_bind ?_)
      refine Pv.pos (by simp; omega) (Pv.some_bind (Pv.some_bind (Pv.pos (by simp; omega) (Pv.some_bind ?_))))
      simp only [List.nil_append]
      have tl : (l.take j).length ≤ 250 := by rw [List.length_take]; omega
      have ll : (l ++ [x]).length ≤ 251 := by simp; omega
      refine Ev.bind awake05c (Pv.pos rfl (Ev.bind (tend (l.take j) (by omega) 0) (Pv.pos e1 ?_)))
      refine Ev.bind (tdepth (l.take j) (by omega)) (Pv.pos (dep_zero.2 hcut) (Ev.bind (tvalid (l.take j) 6 (by omega) (by omega)) ?_))
      rw [validS_not hcut]
      refine Pv.neg (by decide) (Ev.bind (tend (l ++ [x]) (by omega) 0) (Pv.pos e2 ?_))
      refine Ev.bind (tdepth (l ++ [x]) (by omega)) (Pv.pos (dep_zero.2 hlong) (Ev.bind (tvalid (l ++ [x]) 6 (by omega) (by omega)) ?_))
      rw [validS_not hlong]
      exact Ev.now _
  · rw [decide_eq_false h]
    exact Pv.neg (by decide) idle

end Go.Proofs.Ytbjigmgiecgolaa.Pure
