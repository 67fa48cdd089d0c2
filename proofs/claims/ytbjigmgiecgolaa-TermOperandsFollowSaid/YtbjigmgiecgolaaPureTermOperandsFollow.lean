/- TermOperandsFollow: for every list of terms the law answers true: in one expression the operands of each term stand one behind the other, and the last one ends where the term ends. -/
import Derived.Test.YtbjigmgiecgolaaFn05c
namespace Go.Proofs.Ytbjigmgiecgolaa.Pure
open Go.RowKit Go.Proofs.Ytbjigmgiecgolaa.P Go.Proofs.YtbjigmgiecgolaaW.PrintWords Go.Proofs.YtbjigmgiecgolaaW.PrintLast Go.Proofs.Ytbjigmgiecgolaa.Fn05 Go.Proofs.Ytbjigmgiecgolaa.Math05

theorem awake05b : Ev (fun k => selfstablaw05_awake.f k) true := Ev.of selfstablaw05_awake.mono (k := 40) (by decide +kernel)

/-- The ends of m expressions in a row. -/
theorem ends_skip (l : List S31) : ∀ (m i : Nat) (r : List S31), skip opS (l.drop i) m = some r → ends l m (i : Int) = (l.length : Int) - r.length ∨ l.length < i
  | 0, i, r, h => by
    rw [skip_zero] at h
    injection h with h
    subst h
    rcases Nat.lt_or_ge l.length i with h | h
    · exact .inr h
    · left; show (i : Int) = _; rw [List.length_drop]; omega
  | m + 1, i, r, h => by
    rcases Nat.lt_or_ge l.length i with hi | hi
    · exact .inr hi
    left
    obtain ⟨f, hf, hfr⟩ := Exs_of_skip opS _ _ _ h
    rw [Nat.add_comm] at hf
    obtain ⟨f1, f2, rfl, h1, h2⟩ := Exs.split opS hf
    have e1 : skip opS (l.drop i) 1 = some (f2 ++ r) := by rw [hfr, List.append_assoc]; exact skip_of_Exs' opS h1 _
    have len : l.length - i = f1.length + (f2.length + r.length) := by
      have := congrArg List.length hfr
      rw [List.length_drop] at this
      simp only [List.length_append] at this
      omega
    have e2 : endS l (i : Int) = ((i + f1.length : Nat) : Int) := by
      rw [endS_nat]; unfold endW; rw [e1]
      show (l.length : Int) - ((f2 ++ r).length : Nat) = _
      rw [List.length_append]; omega
    have e3 : l.drop (i + f1.length) = f2 ++ r := by
      rw [← List.drop_drop, hfr, List.append_assoc, List.drop_left]
    show ends l m (endS l (i : Int)) = _
    rw [e2]
    rcases ends_skip l m (i + f1.length) r (by rw [e3]; exact skip_of_Exs' opS h2 _) with h | h
    · exact h
    · omega

theorem TermOperandsFollow : ∀ (l0 : List (S31)), (l0.length ≤ maxLen ∧ ∀ y0 ∈ l0, ((Lit.int .i64 y0.f0).wf = true ∧ (Lit.int .i64 y0.f1).wf = true)) → ∃ k, selfstablaw05_TermOperandsFollow.f k l0 = some true := by
  intro l _
  refine Ev.rounds ?_
  have idle : Ev (fun k => selfstablaw05_TermOperandsFollow.j0 k l true) true :=
    Ev.step (fun k => by simp only [selfstablaw05_TermOperandsFollow.j0]; rfl) (Pv.pos (by trivial) (Ev.bind awake05b (Ev.now _)))
  refine Pv.const_bind (x := decide ((l.length : Int) ≤ 250)) rfl ?_
  by_cases h : (l.length : Int) ≤ 250
  · rw [decide_eq_true h]
    refine Pv.pos rfl (Ev.bind (rdepth l (by omega)) ?_)
    by_cases hd : dep l = 0
    · rw [hd]; exact idle
    · rw [beq_eq_false_iff_ne.2 hd]
      have hx : Exs opS 1 l := Classical.byContradiction fun hn => hd (dep_zero.2 hn)
      refine Ev.step (fun k => by simp only [selfstablaw05_TermOperandsFollow.j0]; rfl) (Pv.neg (by decide) ?_)
      -- from place i on
      have outer : ∀ (n i : Nat), i + n = l.length → Ev (fun k => selfstablaw05_TermOperandsFollow.l0 k l (i : Int)) true := by
        intro n
        induction n with
        | zero =>
          intro i hi
          obtain rfl : i = l.length := by omega
          refine Ev.step (fun k => by simp only [selfstablaw05_TermOperandsFollow.l0]; rfl) (Pv.neg (by omega) ?_)
          refine Ev.bind awake05b (Pv.pos rfl (Ev.bind (tend l (by omega) 0) (Pv.as (Ev.now _) ?_)))
          exact (oneS_iff l).2 hx
        | succ n ih =>
          intro i hi
          have hlt : i < l.length := by omega
          refine Ev.step (fun k => by simp only [selfstablaw05_TermOperandsFollow.l0]; rfl) (Pv.pos (by omega) ?_)
          rw [Pv.w64 (by omega) (by omega)]
          obtain ⟨q, hq⟩ := hx.drop opS i hlt
          rw [List.drop_eq_getElem_cons hlt] at hq
          obtain ⟨m, t1, hm, ht1, ht2⟩ : ∃ (m : Nat) (t1 : List S31), ar (l[i]).f0 = m ∧ Exs opS m t1 ∧ ∃ t2, l.drop (i + 1) = t1 ++ t2 := by
            generalize he : l.drop (i + 1) = ts at hq
            cases hq with
            | cons _ m n t1 t2 ha ht1 ht2 => exact ⟨m, t1, ha, ht1, t2, rfl⟩
          obtain ⟨t2, ht2⟩ := ht2
          have hr := ar_range (l[i]).f0
          have len : l.length - (i + 1) = t1.length + t2.length := by
            have := congrArg List.length ht2
            rw [List.length_drop] at this
            simpa using this
          have hend : endS l (i : Int) = ends l m ((i + 1 : Nat) : Int) := by
            have e1 : endS l (i : Int) = (l.length : Int) - t2.length := by
              rw [endS_nat, endW_step hlt hm]
              unfold endW
              rw [Nat.zero_add, ht2, skip_of_Exs' opS ht1]
            rcases ends_skip l m (i + 1) t2 (by rw [ht2]; exact skip_of_Exs' opS ht1 _) with h | h
            · rw [e1, h]
            · omega
          have hpos : ¬ endS l (i : Int) < 0 := by
            have e1 : endS l (i : Int) = (l.length : Int) - t2.length := by
              rw [endS_nat, endW_step hlt hm]
              unfold endW
              rw [Nat.zero_add, ht2, skip_of_Exs' opS ht1]
            omega
          have inner : ∀ (m2 j : Nat), j + m2 = m → Ev (fun k => selfstablaw05_TermOperandsFollow.l1 k l (i : Int) (ends l j ((i : Int) + 1)) (j : Int)) true := by
            intro m2
            induction m2 with
            | zero =>
              intro j hj
              obtain rfl : j = m := by omega
              refine Ev.step (fun k => by simp only [selfstablaw05_TermOperandsFollow.l1]; rfl) (Pv.pos (by omega) (Pv.pos (by omega) ?_))
              rw [rdT hlt]
              refine Ev.bind (arity _) ?_
              rw [hm]
              refine Pv.neg (by omega) (Ev.bind (tend l (by omega) _) (Pv.pos (by rw [hend]; rfl) (Ev.bind (arity _) ?_)))
              rw [hm]
              refine Ev.bind (topd l (by omega) _ _) ?_
              have e : opd l (i : Int) (j : Int) = -1 := by
                unfold opd
                rw [if_neg hpos, if_neg (by omega), rdT hlt, hm, if_pos (by omega)]
              rw [e, Pv.w64 (by omega) (by omega)]
              refine Pv.pos rfl ?_
              have := ih (i + 1) (by omega)
              simpa using this
            | succ m2 ih2 =>
              intro j hj
              refine Ev.step (fun k => by simp only [selfstablaw05_TermOperandsFollow.l1]; rfl) (Pv.pos (by omega) (Pv.pos (by omega) ?_))
              rw [rdT hlt]
              refine Ev.bind (arity _) ?_
              rw [hm]
              refine Pv.pos (by omega) (Ev.bind (topd l (by omega) _ _) ?_)
              have e : opd l (i : Int) (j : Int) = ends l j ((i : Int) + 1) := by
                unfold opd
                rw [if_neg hpos, if_neg (by omega), rdT hlt, hm, if_neg (by omega), Int.toNat_natCast]
              rw [e]
              refine Pv.pos rfl (Ev.bind (tend l (by omega) _) ?_)
              rw [← ends_succ, Pv.w64 (by omega) (by omega)]
              have := ih2 (j + 1) (by omega)
              simpa using this
          have := inner m 0 (by omega)
          exact this
      exact outer l.length 0 (by omega)
  · rw [decide_eq_false h]
    exact Pv.neg (by decide) idle

end Go.Proofs.Ytbjigmgiecgolaa.Pure
