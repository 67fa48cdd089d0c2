/- Valid of term and of its reference, and what the laws use of it. -/
import Derived.Test.YtbjigmgiecgolaaFn05b
import Derived.Test.YtbjigmgiecgolaaP8
namespace Go.Proofs.Ytbjigmgiecgolaa.Fn05
open Go.RowKit Go.Proofs.Ytbjigmgiecgolaa.P Go.Proofs.YtbjigmgiecgolaaW.PrintWords Go.Proofs.YtbjigmgiecgolaaW.PrintLast Go.Proofs.YtbjigmgiecgolaaW.PrintMore Go.Proofs.Ytbjigmgiecgolaa.Math05
set_option linter.unusedVariables false
set_option linter.unusedSimpArgs false

/-- The greatest Arg of an operation. -/
def limS (o v : Int) : Int := if o = 1 then 1073741824 else if o = 5 then v - 1 else if o = 12 then v - 1 else 0
def argS (v : Int) (t : S31) : Bool := decide (0 ≤ t.f1) && decide (t.f1 ≤ limS t.f0 v)
def validS (l : List S31) (v : Int) : Bool := decide (l.length ≤ 200) && (oneS l && (decide (dep l ≤ 24) && (decide (nst l ≤ 2) && l.all (argS v))))

theorem tlimit (o v : Int) (h1 : -9223372036854775807 ≤ v) (h2 : v ≤ 9223372036854775807) : term_limit.f o v = some (limS o v) := by
  unfold term_limit.f limS
  rw [Pv.w64 (by omega) (by omega)]
  repeat' split
  all_goals rfl
theorem tvalid_l0 (l : List S31) (v : Int) (h1 : -9223372036854775807 ≤ v) (h2 : v ≤ 9223372036854775807) (hl : l.length ≤ 10000) : ∀ (n i : Nat), i + n = l.length → Ev (fun k => term_Valid.l0 k v l (l.length : Int) (i : Int)) ((l.drop i).all (argS v)) := by
  intro n
  induction n with
  | zero =>
    intro i hi
    refine Ev.step (fun k => by simp only [term_Valid.l0]; rfl) ?_
    rw [List.drop_of_length_le (by omega)]
    exact Pv.neg (by omega) (Ev.now _)
  | succ n ih =>
    intro i hi
    have hlt : i < l.length := by omega
    refine Ev.step (fun k => by simp only [term_Valid.l0]; rfl) ?_
    refine Pv.pos (by omega) (Pv.pos (by omega) (Pv.pos (by omega) ?_))
    rw [rdT hlt, List.drop_eq_getElem_cons hlt, List.all_cons]
    by_cases ha : (l[i]).f1 < 0
    · have e : argS v l[i] = false := by unfold argS; rw [decide_eq_false (by omega)]; rfl
      rw [e, Bool.false_and]
      exact Pv.pos ha (Ev.now _)
    · refine Pv.neg ha (Pv.const_bind (tlimit _ _ h1 h2) ?_)
      by_cases hb : (l[i]).f1 > limS (l[i]).f0 v
      · have e : argS v l[i] = false := by unfold argS; rw [decide_eq_false (show ¬ (l[i]).f1 ≤ limS (l[i]).f0 v by omega), Bool.and_false]
        rw [e, Bool.false_and]
        exact Pv.pos hb (Ev.now _)
      · have e : argS v l[i] = true := by unfold argS; rw [decide_eq_true (by omega), decide_eq_true (by omega)]; rfl
        rw [e, Bool.true_and]
        have e1 : wrap64 ((i : Int) + 1) = ((i + 1 : Nat) : Int) := by rw [Pv.w64 (by omega) (by omega)]; omega
        rw [e1]
        exact Pv.neg hb (ih (i + 1) (by omega))
theorem tvalid (l : List S31) (v : Int) (h1 : -9223372036854775807 ≤ v) (h2 : v ≤ 9223372036854775807) : Ev (fun k => term_Valid.f k l v) (validS l v) := by
  have stop : Ev (fun k => term_Valid.j0 k l v true) false := Ev.step (fun k => by simp only [term_Valid.j0]; rfl) (Pv.pos (by trivial) (Ev.now _))
  show Ev (fun k => if (l.length : Int) > 200 then _ else _) _
  unfold validS
  by_cases h : (l.length : Int) > 200
  · rw [decide_eq_false (by omega), Bool.false_and]
    exact Pv.pos h stop
  · rw [decide_eq_true (by omega), Bool.true_and]
    refine Pv.neg h (Ev.bind (tone l (by omega)) ?_)
    by_cases ho : oneS l = true
    · rw [ho, Bool.true_and]
      refine Pv.pos rfl (Ev.bind (tdepth l (by omega)) ?_)
      by_cases hd : dep l > 24
      · rw [decide_eq_false (by omega), Bool.false_and]
        exact Pv.pos hd stop
      · rw [decide_eq_true (by omega), Bool.true_and]
        refine Pv.neg hd (Ev.bind (tnest l (by omega)) ?_)
        by_cases hn : nst l > 2
        · rw [decide_eq_true hn, decide_eq_false (show ¬ nst l ≤ 2 by omega), Bool.false_and]
          exact stop
        · rw [decide_eq_false hn, decide_eq_true (show nst l ≤ 2 by omega), Bool.true_and]
          refine Ev.step (fun k => by simp only [term_Valid.j0]; rfl) (Pv.neg (by decide) ?_)
          have := tvalid_l0 l v h1 h2 (by omega) l.length 0 (by omega)
          exact this
    · rw [Bool.eq_false_iff.2 ho, Bool.false_and]
      exact Pv.neg (by decide) stop

theorem rarg (t : S31) (v : Int) : selfstabref05_argument.f t.f0 t.f1 v = some (argS v t) := by
  unfold selfstabref05_argument.f argS limS
  by_cases h1 : t.f0 = 1
  · rw [if_pos h1, if_pos h1]
    by_cases h : t.f1 ≥ 0
    · rw [if_pos h, decide_eq_true (show 0 ≤ t.f1 by omega), Bool.true_and]
    · rw [if_neg h, decide_eq_false (show ¬ 0 ≤ t.f1 by omega), Bool.false_and]
  · rw [if_neg h1, if_neg h1]
    by_cases h2 : t.f0 = 5
    · rw [if_pos h2, if_pos h2]
      by_cases h : t.f1 ≥ 0
      · rw [if_pos h, decide_eq_true (show 0 ≤ t.f1 by omega), Bool.true_and]
        congr 1; exact decide_eq_decide.2 (by omega)
      · rw [if_neg h, decide_eq_false (show ¬ 0 ≤ t.f1 by omega), Bool.false_and]
    · rw [if_neg h2, if_neg h2]
      by_cases h3 : t.f0 = 12
      · rw [if_pos h3, if_pos h3]
        by_cases h : t.f1 ≥ 0
        · rw [if_pos h, decide_eq_true (show 0 ≤ t.f1 by omega), Bool.true_and]
          congr 1; exact decide_eq_decide.2 (by omega)
        · rw [if_neg h, decide_eq_false (show ¬ 0 ≤ t.f1 by omega), Bool.false_and]
      · rw [if_neg h3, if_neg h3]
        congr 1
        by_cases h : t.f1 = 0
        · rw [h]; decide
        · rw [beq_eq_false_iff_ne.2 h]
          by_cases h0 : 0 ≤ t.f1
          · rw [decide_eq_false (show ¬ t.f1 ≤ 0 by omega), Bool.and_false]
          · rw [decide_eq_false h0, Bool.false_and]
theorem rvalid_l0 (l : List S31) (v : Int) (hl : l.length ≤ 10000) : ∀ (n i : Nat), i + n = l.length → Ev (fun k => selfstabref05_Valid.l0 k l v (i : Int)) ((l.drop i).all (argS v)) := by
  intro n
  induction n with
  | zero =>
    intro i hi
    refine Ev.step (fun k => by simp only [selfstabref05_Valid.l0]; rfl) ?_
    rw [List.drop_of_length_le (by omega)]
    exact Pv.neg (by omega) (Ev.now _)
  | succ n ih =>
    intro i hi
    have hlt : i < l.length := by omega
    refine Ev.step (fun k => by simp only [selfstabref05_Valid.l0]; rfl) ?_
    refine Pv.pos (by omega) (Pv.pos (by omega) ?_)
    rw [rdT hlt, List.drop_eq_getElem_cons hlt, List.all_cons]
    refine Pv.const_bind (rarg _ _) ?_
    have e1 : wrap64 ((i : Int) + 1) = ((i + 1 : Nat) : Int) := by rw [Pv.w64 (by omega) (by omega)]; omega
    rw [e1]
    cases ha : argS v l[i] with
    | true => rw [Bool.true_and]; exact Pv.pos rfl (ih (i + 1) (by omega))
    | false => rw [Bool.false_and]; exact Pv.neg (by decide) (Ev.now _)
theorem rvalid (l : List S31) (v : Int) : Ev (fun k => selfstabref05_Valid.f k l v) (validS l v) := by
  have stop : Ev (fun k => selfstabref05_Valid.j0 k l v true) false := Ev.step (fun k => by simp only [selfstabref05_Valid.j0]; rfl) (Pv.pos (by trivial) (Ev.now _))
  show Ev (fun k => if (l.length : Int) > 200 then _ else _) _
  unfold validS
  by_cases h : (l.length : Int) > 200
  · rw [decide_eq_false (by omega), Bool.false_and]
    exact Pv.pos h stop
  · rw [decide_eq_true (by omega), Bool.true_and]
    refine Pv.neg h (Ev.bind (rone l (by omega)) ?_)
    by_cases ho : oneS l = true
    · rw [ho, Bool.true_and]
      refine Pv.pos rfl (Ev.bind (rdepth l (by omega)) ?_)
      by_cases hd : dep l > 24
      · rw [decide_eq_false (by omega), Bool.false_and]
        exact Pv.pos hd stop
      · rw [decide_eq_true (by omega), Bool.true_and]
        refine Pv.neg hd (Ev.bind (rnest l (by omega)) ?_)
        by_cases hn : nst l > 2
        · rw [decide_eq_true hn, decide_eq_false (show ¬ nst l ≤ 2 by omega), Bool.false_and]
          exact stop
        · rw [decide_eq_false hn, decide_eq_true (show nst l ≤ 2 by omega), Bool.true_and]
          refine Ev.step (fun k => by simp only [selfstabref05_Valid.j0]; rfl) (Pv.neg (by decide) ?_)
          exact rvalid_l0 l v (by omega) l.length 0 (by omega)
    · rw [Bool.eq_false_iff.2 ho, Bool.false_and]
      exact Pv.neg (by decide) stop
theorem validS_iff (l : List S31) (v : Int) : validS l v = true ↔ l.length ≤ 200 ∧ Exs opS 1 l ∧ dep l ≤ 24 ∧ nst l ≤ 2 ∧ ∀ t ∈ l, argS v t = true := by
  unfold validS
  simp only [Bool.and_eq_true, decide_eq_true_eq, List.all_eq_true, oneS_iff]
theorem dep_Exs {l : List S31} (h : Exs opS 1 l) : dep l = mxl (vals opS ofD l) := by unfold dep; rw [if_pos ((oneS_iff l).2 h)]
theorem nst_Exs {l : List S31} (h : Exs opS 1 l) : nst l = mxl (vals opS ofN l) := by unfold nst; rw [if_pos ((oneS_iff l).2 h)]
theorem dep_pos {l : List S31} (h : Exs opS 1 l) : 1 ≤ dep l := by
  rw [dep_Exs h]
  obtain ⟨t, ts, rfl⟩ : ∃ t ts, l = t :: ts := by cases l with
    | nil => exact absurd rfl (h.ne_nil opS)
    | cons t ts => exact ⟨t, ts, rfl⟩
  rw [(vals_one opS ofD h).1]
  have := mxl_nonneg (vals opS ofD ts)
  show 1 ≤ max (mxl (vals opS ofD ts) + 1) 0
  omega
theorem dep_zero {l : List S31} : dep l = 0 ↔ ¬ Exs opS 1 l := by
  constructor
  · intro h hx
    have := dep_pos hx
    omega
  · intro h
    unfold dep
    rw [if_neg (fun ho => h ((oneS_iff l).1 ho))]
theorem modS (a n : Int) (ha : -9223372036854775808 ≤ a) (ha2 : a ≤ 9223372036854775807) (hn : 0 < n) (hn2 : n ≤ 1000000) : ∃ r, selfstabmade_Mod.f a n = some r ∧ 0 ≤ r ∧ r < n := by
  unfold selfstabmade_Mod.f
  rw [if_neg (by omega)]
  have h1 : Int.tmod a n < n := Int.tmod_lt_of_pos a hn
  have h2 : -n < Int.tmod a n := by
    have := Int.tmod_lt_of_pos (-a) hn
    rw [Int.neg_tmod] at this
    omega
  by_cases h : Int.tmod a n < 0
  · rw [if_pos h, Pv.w64 (by omega) (by omega)]
    exact ⟨_, rfl, by omega, by omega⟩
  · rw [if_neg h]
    exact ⟨_, rfl, by omega, by omega⟩
end Go.Proofs.Ytbjigmgiecgolaa.Fn05
