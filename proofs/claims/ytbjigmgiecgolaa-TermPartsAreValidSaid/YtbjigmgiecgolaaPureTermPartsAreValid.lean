/- TermPartsAreValid: for every list of terms and every number the law answers true: every part of a valid expression is a valid expression of smaller or equal Depth and Nest. -/
import Derived.Test.YtbjigmgiecgolaaFn05c
namespace Go.Proofs.Ytbjigmgiecgolaa.Pure
open Go.RowKit Go.Proofs.Ytbjigmgiecgolaa.P Go.Proofs.YtbjigmgiecgolaaW.PrintWords Go.Proofs.YtbjigmgiecgolaaW.PrintLast Go.Proofs.Ytbjigmgiecgolaa.Fn05 Go.Proofs.Ytbjigmgiecgolaa.Math05

theorem awake05d : Ev (fun k => selfstablaw05_awake.f k) true := Ev.of selfstablaw05_awake.mono (k := 40) (by decide +kernel)
/-- A part's value is at most the whole's. -/
theorem part_le (of : Int → Int → Int) (hof : ∀ o x, x ≤ of o x) {l f r : List S31} {i : Nat} (hd : l.drop i = f ++ r) (hf : Exs opS 1 f) : mxl (vals opS of f) ≤ mxl (vals opS of l) := by
  have h1 := vals_drop opS of hof l i
  rw [hd, (vals_append opS of hf).2, mxl_append] at h1
  omega

theorem TermPartsAreValid : ∀ (l0 : List (S31)) (a1 : Int), (l0.length ≤ maxLen ∧ ∀ y0 ∈ l0, ((Lit.int .i64 y0.f0).wf = true ∧ (Lit.int .i64 y0.f1).wf = true)) → (Lit.int .i64 a1).wf = true → ∃ k, selfstablaw05_TermPartsAreValid.f k l0 a1 = some true := by
  intro l a _ ha
  have ha' := Pv.wf64 ha
  refine Ev.rounds ?_
  have idle : Ev (fun k => selfstablaw05_TermPartsAreValid.j0 k l a true) true :=
    Ev.step (fun k => by simp only [selfstablaw05_TermPartsAreValid.j0]; rfl) (Pv.pos (by trivial) (Ev.bind awake05d (Ev.now _)))
  refine Pv.const_bind (x := decide ((l.length : Int) ≤ 250)) rfl ?_
  by_cases h : (l.length : Int) ≤ 250
  · rw [decide_eq_true h]
    refine Pv.pos rfl (Ev.bind (rvalid l 6) ?_)
    by_cases hv : validS l 6 = true
    · rw [hv]
      obtain ⟨v1, hx, v3, v4, v5⟩ := (validS_iff l 6).1 hv
      have hne : 0 < l.length := List.length_pos_iff.2 (hx.ne_nil opS)
      obtain ⟨r, hr, hr0, hr1⟩ := modS a (l.length : Int) ha'.1 ha'.2 (by omega) (by omega)
      obtain ⟨i, rfl⟩ := Int.eq_ofNat_of_zero_le hr0
      have hlt : i < l.length := by omega
      obtain ⟨q, hq⟩ := hx.drop opS i hlt
      rw [Nat.add_comm] at hq
      obtain ⟨f, g, hfg, hf, hg⟩ := Exs.split opS hq
      have hfl : 0 < f.length := List.length_pos_iff.2 (hf.ne_nil opS)
      have len : l.length - i = f.length + g.length := by
        have := congrArg List.length hfg
        rw [List.length_drop] at this
        simpa using this
      have e1 : endS l (i : Int) = ((i + f.length : Nat) : Int) := by
        rw [endS_nat]; unfold endW
        rw [hfg, skip_of_Exs' opS hf]
        show (l.length : Int) - (g.length : Nat) = _
        omega
      have e2 : (l.take (i + f.length)).drop i = f := by
        rw [List.drop_take, hfg, Nat.add_sub_cancel_left, List.take_left]
      have hdle : dep f ≤ dep l := by rw [dep_Exs hf, dep_Exs hx]; exact part_le ofD ofD_ge hfg hf
      have hnle : nst f ≤ nst l := by rw [nst_Exs hf, nst_Exs hx]; exact part_le ofN ofN_ge hfg hf
      have hdlt : i ≠ 0 → dep f < dep l := by
        intro hi
        rw [dep_Exs hf, dep_Exs hx]
        obtain ⟨t, ts, rfl⟩ : ∃ t ts, l = t :: ts := by cases l with
          | nil => exact absurd rfl (hx.ne_nil opS)
          | cons t ts => exact ⟨t, ts, rfl⟩
        rw [(vals_one opS ofD hx).1]
        have h1 : mxl (vals opS ofD f) ≤ mxl (vals opS ofD ts) := by
          obtain ⟨i2, rfl⟩ : ∃ i2, i = i2 + 1 := ⟨i - 1, by omega⟩
          rw [List.drop_succ_cons] at hfg
          exact part_le ofD ofD_ge hfg hf
        show mxl (vals opS ofD f) < max (mxl (vals opS ofD ts) + 1) 0
        omega
      have hvf : validS f 6 = true := by
        refine (validS_iff f 6).2 ⟨by omega, hf, by omega, by omega, fun t ht => v5 t ?_⟩
        have : t ∈ l.drop i := by rw [hfg]; exact List.mem_append_left _ ht
        exact List.mem_of_mem_drop this
      refine Ev.step (fun k => by simp only [selfstablaw05_TermPartsAreValid.j0]; rfl) (Pv.neg (by decide) ?_)
      refine Pv.const_bind hr (Ev.bind (tend l (by omega) _) ?_)
      rw [e1]
      refine Pv.neg (by omega) ?_
      rw [decide_eq_false (by omega)]
      refine Ev.step (fun k => by simp only [selfstablaw05_TermPartsAreValid.j1]; rfl) (Pv.neg (by decide) ?_)
      refine Pv.pos (by omega) (Pv.pos (by omega) (Pv.pos (by omega) (Pv.some_bind ?_)))
      rw [Int.toNat_natCast, Int.toNat_natCast, e2]
      refine Pv.pos (by simp; omega) (Pv.some_bind ?_)
      simp only [List.nil_append]
      refine Ev.bind awake05d (Pv.pos rfl (Ev.bind (tvalid f 6 (by omega) (by omega)) (Pv.pos hvf ?_)))
      refine Ev.bind (tdepth f (by omega)) (Ev.bind (tdepth l (by omega)) (Pv.pos hdle ?_))
      refine Ev.bind (tnest f (by omega)) (Ev.bind (tnest l (by omega)) (Pv.pos hnle ?_))
      by_cases hi : i = 0
      · exact Pv.pos (by omega) (Ev.now _)
      · refine Pv.neg (by omega) (Ev.bind (tdepth f (by omega)) (Ev.bind (tdepth l (by omega)) (Pv.as (Ev.now _) ?_)))
        exact decide_eq_true (hdlt hi)
    · rw [Bool.eq_false_iff.2 hv]
      exact idle
  · rw [decide_eq_false h]
    exact Pv.neg (by decide) idle

end Go.Proofs.Ytbjigmgiecgolaa.Pure
