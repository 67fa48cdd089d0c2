/- TermGrows: for every number and all lists of terms the law answers true: an operation with valid operands, within the limits, is a valid expression, one level deeper than its deepest operand. -/
import Derived.Test.YtbjigmgiecgolaaFn05c
import Derived.Test.YtbjigmgiecgolaaP9
namespace Go.Proofs.Ytbjigmgiecgolaa.Pure
open Go.RowKit Go.Proofs.Ytbjigmgiecgolaa.P Go.Proofs.YtbjigmgiecgolaaW.PrintWords Go.Proofs.YtbjigmgiecgolaaW.PrintLast Go.Proofs.Ytbjigmgiecgolaa.Fn05 Go.Proofs.Ytbjigmgiecgolaa.Math05

theorem awake05e : Ev (fun k => selfstablaw05_awake.f k) true := Ev.of selfstablaw05_awake.mono (k := 40) (by decide +kernel)
/-- An operation ahead of as many expressions as it wants. -/
theorem grown {t : S31} {g : List S31} {m : Nat} (ht : ar t.f0 = m) (hg : Exs opS m g) : Exs opS 1 (t :: g) ∧ dep (t :: g) = mxl (vals opS ofD g) + 1 ∧ nst (t :: g) = ofN t.f0 (mxl (vals opS ofN g)) := by
  have h := Exs.cons (op := opS) t m 0 g [] ht hg .nil
  rw [List.append_nil] at h
  have n1 := mxl_nonneg (vals opS ofD g)
  have n2 := mxl_nonneg (vals opS ofN g)
  refine ⟨h, ?_, ?_⟩
  · rw [dep_Exs h, (vals_one opS ofD h).1]
    show max (mxl (vals opS ofD g) + 1) 0 = _
    omega
  · rw [nst_Exs h, (vals_one opS ofN h).1]
    have := ofN_ge t.f0 (mxl (vals opS ofN g))
    show max (ofN t.f0 (mxl (vals opS ofN g))) 0 = _
    omega
theorem vals_two (of : Int → Int → Int) {a b : List S31} {n : Nat} (ha : Exs opS n a) : mxl (vals opS of (a ++ b)) = max (mxl (vals opS of a)) (mxl (vals opS of b)) := by
  rw [(vals_append opS of ha).2, mxl_append]

theorem TermGrows : ∀ (a0 : Int) (l1 : List (S31)) (l2 : List (S31)) (l3 : List (S31)), (Lit.int .i64 a0).wf = true → (l1.length ≤ maxLen ∧ ∀ y0 ∈ l1, ((Lit.int .i64 y0.f0).wf = true ∧ (Lit.int .i64 y0.f1).wf = true)) → (l2.length ≤ maxLen ∧ ∀ y0 ∈ l2, ((Lit.int .i64 y0.f0).wf = true ∧ (Lit.int .i64 y0.f1).wf = true)) → (l3.length ≤ maxLen ∧ ∀ y0 ∈ l3, ((Lit.int .i64 y0.f0).wf = true ∧ (Lit.int .i64 y0.f1).wf = true)) → ∃ k, selfstablaw05_TermGrows.f k a0 l1 l2 l3 = some true := by
  intro a l1 l2 l3 ha _ _ _
  have ha' := Pv.wf64 ha
  refine Ev.rounds ?_
  have idle : Ev (fun k => selfstablaw05_TermGrows.j0 k a l1 l2 l3 true) true :=
    Ev.step (fun k => by simp only [selfstablaw05_TermGrows.j0]; rfl) (Pv.pos (by trivial) (Ev.bind awake05e (Ev.now _)))
  have light : ∀ (l : List S31) {g : Nat → Bool → Option Bool}, (∀ h : (l.length : Int) ≤ 250, Ev (fun k => g k true) true) → ((¬ (l.length : Int) ≤ 250) → Ev (fun k => g k false) true) → Ev (fun k => (selfstabmade_LightExpr.f l).bind (g k)) true := by
    intro l g h1 h2
    refine Pv.const_bind (x := decide ((l.length : Int) ≤ 250)) rfl ?_
    by_cases h : (l.length : Int) ≤ 250
    · rw [decide_eq_true h]; exact h1 h
    · rw [decide_eq_false h]; exact h2 h
  refine light l1 (fun s1 => Pv.pos rfl ?_) (fun _ => Pv.neg (by decide) idle)
  refine light l2 (fun s2 => Pv.pos rfl ?_) (fun _ => Pv.neg (by decide) idle)
  refine light l3 (fun s3 => Pv.pos rfl ?_) (fun _ => Pv.neg (by decide) idle)
  refine Ev.bind (rvalid l1 6) ?_
  by_cases u1 : validS l1 6 = true
  case neg => rw [Bool.eq_false_iff.2 u1]; exact Pv.neg (by decide) idle
  rw [u1]
  refine Pv.pos rfl (Ev.bind (rvalid l2 6) ?_)
  by_cases u2 : validS l2 6 = true
  case neg => rw [Bool.eq_false_iff.2 u2]; exact Pv.neg (by decide) idle
  rw [u2]
  refine Pv.pos rfl (Ev.bind (rvalid l3 6) ?_)
  by_cases u3 : validS l3 6 = true
  case neg => rw [Bool.eq_false_iff.2 u3]; exact idle
  rw [u3]
  obtain ⟨n1, x1, d1, m1, b1⟩ := (validS_iff l1 6).1 u1
  obtain ⟨n2, x2, d2, m2, b2⟩ := (validS_iff l2 6).1 u2
  obtain ⟨n3, x3, d3, m3, b3⟩ := (validS_iff l3 6).1 u3
  obtain ⟨r, hr, hr0, hr1⟩ := modS a 26 ha'.1 ha'.2 (by omega) (by omega)
  have p1 := dep_pos x1
  have p2 := dep_pos x2
  have p3 := dep_pos x3
  -- the last step, for the list that has been made
  have last : ∀ (e : List S31) (d m : Int), e.length ≤ 601 → Exs opS 1 e → dep e = d + 1 → nst e = m → d ≤ 24 → 0 ≤ d → (∀ t ∈ e, argS 6 t = true) → Ev (fun k => selfstablaw05_TermGrows.j3 k e d m) true := by
    intro e d m hl hx hd hm hd2 hd3 hb
    have hval : validS e 6 = (decide (e.length ≤ 200) && (decide (d < 24) && decide (m ≤ 2))) := by
      unfold validS
      rw [(oneS_iff e).2 hx, Bool.true_and, hd, hm, List.all_eq_true.2 hb, Bool.and_true]
      congr 2
      all_goals exact decide_eq_decide.2 (by omega)
    have j4 : ∀ b : Bool, b = validS e 6 → Ev (fun k => selfstablaw05_TermGrows.j4 k e d m b) true := by
      intro b hbv
      refine Ev.step (fun k => by simp only [selfstablaw05_TermGrows.j4]; rfl) ?_
      rw [Pv.w64 (by omega) (by omega)]
      refine Ev.bind awake05e (Pv.pos rfl (Ev.bind (tdepth e (by omega)) (Pv.pos hd (Ev.bind (tnest e (by omega)) (Pv.pos hm ?_)))))
      refine Ev.bind (tend e (by omega) 0) (Pv.pos (eq_of_beq ((oneS_iff e).2 hx)) (Ev.bind (tvalid e 6 (by omega) (by omega)) (Pv.as (Ev.now _) ?_)))
      rw [hbv]; exact beq_self_eq_true _
    refine Ev.step (fun k => by simp only [selfstablaw05_TermGrows.j3]; rfl) ?_
    by_cases c1 : (e.length : Int) ≤ 200
    · refine Pv.pos c1 ?_
      by_cases c2 : d < 24
      · refine Pv.pos c2 (j4 _ ?_)
        rw [hval, decide_eq_true (show e.length ≤ 200 by omega), decide_eq_true c2]; rfl
      · refine Pv.neg c2 (j4 _ ?_)
        rw [hval, decide_eq_false c2, Bool.false_and, Bool.and_false]
    · refine Pv.neg c1 (j4 _ ?_)
      rw [hval, decide_eq_false (show ¬ e.length ≤ 200 by omega), Bool.false_and]
  have agr : ∀ (o : Int) (e : List S31) (d m : Int), e.length ≤ 601 → Exs opS 1 e → dep e = d + 1 → nst e = ofN o m → d ≤ 24 → 0 ≤ d → m ≤ 100 → 0 ≤ m → (∀ t ∈ e, argS 6 t = true) → Ev (fun k => selfstablaw05_TermGrows.j2 k o e d m) true := by
    intro o e d m hl hx hd hm hd2 hd3 hm2 hm3 hb
    refine Ev.step (fun k => by simp only [selfstablaw05_TermGrows.j2]; rfl) (Pv.const_bind (aggr o) ?_)
    rw [ofN_eq] at hm
    cases hg : agg o with
    | true =>
      rw [hg, if_pos rfl] at hm
      rw [Pv.w64 (by omega) (by omega)]
      exact Pv.pos rfl (last e d (m + 1) hl hx hd hm hd2 hd3 hb)
    | false =>
      rw [hg, if_neg (by decide)] at hm
      exact Pv.neg (by decide) (last e d m hl hx hd hm hd2 hd3 hb)
  obtain ⟨w1, w2, w3⟩ := And.intro (dep_Exs x1) (And.intro (dep_Exs x2) (dep_Exs x3))
  obtain ⟨z1, z2, z3⟩ := And.intro (nst_Exs x1) (And.intro (nst_Exs x2) (nst_Exs x3))
  have q1 := mxl_nonneg (vals opS ofN l1)
  have q2 := mxl_nonneg (vals opS ofN l2)
  have q3 := mxl_nonneg (vals opS ofN l3)
  refine Ev.step (fun k => by simp only [selfstablaw05_TermGrows.j0]; rfl) (Pv.neg (by decide) (Pv.const_bind hr ?_))
  rw [Pv.w64 (by omega) (by omega)]
  refine Pv.some_bind (Pv.pos (by simp; omega) (Pv.some_bind ?_))
  refine Ev.bind (tdepth l1 (by omega)) (Ev.bind (tnest l1 (by omega)) (Ev.bind (rarity _) ?_))
  have hop : argS 6 (⟨18 + r, 0⟩ : S31) = true := by
    unfold argS limS
    rw [if_neg (show ¬ 18 + r = 1 by omega), if_neg (show ¬ 18 + r = 5 by omega)]
    simp only
    split <;> rfl
  have hr3 : ar (18 + r) = 1 ∨ ar (18 + r) = 2 ∨ ar (18 + r) = 3 := by
    unfold ar
    rw [if_neg (by omega), if_neg (by omega), if_neg (by omega)]
    split
    · exact .inl rfl
    · split
      · exact .inr (.inl rfl)
      · exact .inr (.inr rfl)
  simp only [List.cons_append, List.nil_append]
  rcases hr3 with h1 | h1 | h1
  · rw [h1]
    refine Pv.neg (by omega) (Ev.step (fun k => by simp only [selfstablaw05_TermGrows.j1]; rfl) (Ev.bind (rarity _) ?_))
    rw [h1]
    refine Pv.neg (by omega) ?_
    obtain ⟨g1, g2, g3⟩ := grown (t := ⟨18 + r, 0⟩) (m := 1) h1 x1
    refine agr (18 + r) _ (dep l1) (nst l1) (by simp; omega) g1 (by rw [g2, w1]) (by rw [g3, z1]) d1 (by omega) (by omega) (by omega) ?_
    intro t ht
    rcases List.mem_cons.1 ht with rfl | ht
    · exact hop
    · exact b1 t ht
  · rw [h1]
    refine Pv.pos (by omega) (Pv.pos (by simp; omega) (Ev.bind (tdepth l2 (by omega)) (Ev.bind (tnest l2 (by omega)) ?_)))
    refine Ev.step (fun k => by simp only [selfstablaw05_TermGrows.j1]; rfl) (Ev.bind (rarity _) ?_)
    rw [h1, Pv.mx_eq, Pv.mx_eq]
    refine Pv.neg (by omega) ?_
    have x12 := x1.append opS x2
    obtain ⟨g1, g2, g3⟩ := grown (t := ⟨18 + r, 0⟩) (m := 2) h1 x12
    refine agr (18 + r) _ (max (dep l1) (dep l2)) (max (nst l1) (nst l2)) (by simp; omega) g1 (by rw [g2, vals_two _ x1, w1, w2]) (by rw [g3, vals_two _ x1, z1, z2]) (by omega) (by omega) (by omega) (by omega) ?_
    intro t ht
    rcases List.mem_cons.1 ht with rfl | ht
    · exact hop
    · rcases List.mem_append.1 ht with ht | ht
      · exact b1 t ht
      · exact b2 t ht
  · rw [h1]
    refine Pv.pos (by omega) (Pv.pos (by simp; omega) (Ev.bind (tdepth l2 (by omega)) (Ev.bind (tnest l2 (by omega)) ?_)))
    refine Ev.step (fun k => by simp only [selfstablaw05_TermGrows.j1]; rfl) (Ev.bind (rarity _) ?_)
    rw [h1, Pv.mx_eq, Pv.mx_eq]
    refine Pv.pos (by omega) (Pv.pos (by simp; omega) (Ev.bind (tdepth l3 (by omega)) (Ev.bind (tnest l3 (by omega)) ?_)))
    rw [Pv.mx_eq, Pv.mx_eq]
    have x12 := x1.append opS x2
    have x123 := x12.append opS x3
    obtain ⟨g1, g2, g3⟩ := grown (t := ⟨18 + r, 0⟩) (m := 3) h1 x123
    have e0 : (⟨18 + r, 0⟩ : S31) :: (l1 ++ l2 ++ l3) = ((⟨18 + r, 0⟩ : S31) :: (l1 ++ l2)) ++ l3 := by simp
    rw [e0] at g1 g2 g3
    refine agr (18 + r) _ (max (max (dep l1) (dep l2)) (dep l3)) (max (max (nst l1) (nst l2)) (nst l3)) (by simp; omega) g1 (by rw [g2, vals_two _ x12, vals_two _ x1, w1, w2, w3]) (by rw [g3, vals_two _ x12, vals_two _ x1, z1, z2, z3]) (by omega) (by omega) (by omega) (by omega) ?_
    intro t ht
    rcases List.mem_append.1 ht with ht | ht
    · rcases List.mem_cons.1 ht with rfl | ht
      · exact hop
      · rcases List.mem_append.1 ht with ht | ht
        · exact b1 t ht
        · exact b2 t ht
    · exact b3 t ht

end Go.Proofs.Ytbjigmgiecgolaa.Pure
