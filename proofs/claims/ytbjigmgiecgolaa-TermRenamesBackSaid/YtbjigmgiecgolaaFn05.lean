/- What the functions of term and of its reference answer, as sentences over Math05. -/
import Derived.Test.YtbjigmgiecgolaaP7
import Derived.Test.YtbjigmgiecgolaaPv
import Derived.Test.YtbjigmgiecgolaaMath05
namespace Go.Proofs.Ytbjigmgiecgolaa.Fn05
open Go.RowKit Go.Proofs.Ytbjigmgiecgolaa.P Go.Proofs.YtbjigmgiecgolaaW.PrintWords Go.Proofs.YtbjigmgiecgolaaW.PrintLast Go.Proofs.YtbjigmgiecgolaaW.PrintMore Go.Proofs.Ytbjigmgiecgolaa.Math05
set_option linter.unusedVariables false
set_option linter.unusedSimpArgs false
def opS (t : S31) : Int := t.f0
theorem rdT {l : List S31} {i : Nat} (h : i < l.length) : rd_T31 l (i : Int) = l[i] := by
  unfold rd_T31; simp [List.getD_eq_getElem?_getD, List.getElem?_eq_getElem h]

theorem arity (a : Int) : Ev (fun k => term_Arity.f k a) (ar a) := by
  unfold ar
  show Ev (fun k => if a < 1 then (term_Arity.j0 k a true) else (term_Arity.j0 k a (decide (a > 43)))) _
  by_cases h1 : a < 1
  · rw [if_pos h1]
    exact Pv.pos h1 (Ev.step (f := fun _ => some (-1)) (fun k => rfl) (Ev.now _))
  · rw [if_neg h1]
    refine Pv.neg h1 ?_
    by_cases h2 : a > 43
    · rw [if_pos h2, decide_eq_true h2]
      exact Ev.step (f := fun _ => some (-1)) (fun k => rfl) (Ev.now _)
    · rw [if_neg h2, decide_eq_false h2]
      refine Ev.step (f := fun _ => if a ≤ 17 then some 0 else if a ≤ 29 then some 1 else if a ≤ 42 then some 2 else some 3) (fun k => rfl) (Pv.const ?_)
      repeat' split
      all_goals rfl

theorem rarity (a : Int) : Ev (fun k => selfstabref05_Arity.f k a) (ar a) := by
  show Ev (fun k => if a ≥ 1 then (selfstabref05_Arity.j0 k a (decide (a ≤ 17))) else (selfstabref05_Arity.j0 k a false)) _
  have j2 : ∀ b : Bool, Ev (fun k => selfstabref05_Arity.j2 k a b) (if b = true then 2 else if a = 43 then 3 else -1) := fun b =>
    Ev.step (f := fun _ => if b = true then some 2 else if a = 43 then some 3 else some (-1)) (fun k => rfl) (Pv.const (by (repeat' split) <;> rfl))
  have j1 : ∀ b : Bool, Ev (fun k => selfstabref05_Arity.j1 k a b) (if b = true then 1 else if 30 ≤ a ∧ a ≤ 42 then 2 else if a = 43 then 3 else -1) := fun b => by
    refine Ev.step (f := fun k => if b = true then some 1 else if a ≥ 30 then selfstabref05_Arity.j2 k a (decide (a ≤ 42)) else selfstabref05_Arity.j2 k a false) (fun k => rfl) ?_
    by_cases hb : b = true
    · rw [if_pos hb]; exact Pv.pos hb (Ev.now _)
    · rw [if_neg hb]
      refine Pv.neg hb ?_
      by_cases h : a ≥ 30
      · refine Pv.pos h (Pv.as (j2 _) ?_)
        by_cases h2 : a ≤ 42
        · rw [decide_eq_true h2, if_pos rfl, if_pos ⟨h, h2⟩]
        · rw [decide_eq_false h2, if_neg (by decide), if_neg (by omega : ¬ (30 ≤ a ∧ a ≤ 42))]
      · refine Pv.neg h (Pv.as (j2 _) ?_)
        rw [if_neg (by decide), if_neg (by omega : ¬ (30 ≤ a ∧ a ≤ 42))]
  have j0 : ∀ b : Bool, Ev (fun k => selfstabref05_Arity.j0 k a b) (if b = true then 0 else if 18 ≤ a ∧ a ≤ 29 then 1 else if 30 ≤ a ∧ a ≤ 42 then 2 else if a = 43 then 3 else -1) := fun b => by
    refine Ev.step (f := fun k => if b = true then some 0 else if a ≥ 18 then selfstabref05_Arity.j1 k a (decide (a ≤ 29)) else selfstabref05_Arity.j1 k a false) (fun k => rfl) ?_
    by_cases hb : b = true
    · rw [if_pos hb]; exact Pv.pos hb (Ev.now _)
    · rw [if_neg hb]
      refine Pv.neg hb ?_
      by_cases h : a ≥ 18
      · refine Pv.pos h (Pv.as (j1 _) ?_)
        by_cases h2 : a ≤ 29
        · rw [decide_eq_true h2, if_pos rfl, if_pos ⟨h, h2⟩]
        · rw [decide_eq_false h2, if_neg (by decide), if_neg (by omega : ¬ (18 ≤ a ∧ a ≤ 29))]
      · refine Pv.neg h (Pv.as (j1 _) ?_)
        rw [if_neg (by decide), if_neg (by omega : ¬ (18 ≤ a ∧ a ≤ 29))]
  by_cases h : a ≥ 1
  · refine Pv.pos h (Pv.as (j0 _) ?_)
    unfold ar
    by_cases h2 : a ≤ 17
    · rw [decide_eq_true h2, if_pos rfl]
      repeat' split
      all_goals omega
    · rw [decide_eq_false h2, if_neg (by decide)]
      repeat' split
      all_goals omega
  · refine Pv.neg h (Pv.as (j0 _) ?_)
    unfold ar
    rw [if_neg (by decide)]
    repeat' split
    all_goals omega

/-- Where the expression that begins at a place ends; -1 if there is none. -/
def endS (l : List S31) (i : Int) : Int := if i < 0 then -1 else match skip opS (l.drop i.toNat) 1 with
  | some r => (l.length : Int) - r.length
  | none => -1
def endW (l : List S31) (i w : Nat) : Int := match skip opS (l.drop i) w with
  | some r => (l.length : Int) - r.length
  | none => -1
theorem endS_nat (l : List S31) (i : Nat) : endS l (i : Int) = endW l i 1 := by unfold endS endW; rw [if_neg (by omega), Int.toNat_natCast]
theorem endW_over {l : List S31} {i w : Nat} (h : l.length ≤ i) : endW l i (w + 1) = -1 := by unfold endW; rw [List.drop_of_length_le h]; rfl
theorem endW_none {l : List S31} {i w : Nat} (h : i < l.length) (ha : ar (l[i]).f0 < 0) : endW l i (w + 1) = -1 := by
  unfold endW
  rw [List.drop_eq_getElem_cons h]
  show (match (if ar (opS l[i]) < 0 then none else skip opS _ _) with | some r => _ | none => _) = _
  have ha' : ar (opS l[i]) < 0 := ha
  rw [if_pos ha']
theorem endW_step {l : List S31} {i w a : Nat} (h : i < l.length) (ha : ar (l[i]).f0 = (a : Int)) : endW l i (w + 1) = endW l (i + 1) (w + a) := by
  unfold endW
  rw [List.drop_eq_getElem_cons h]
  show (match (if ar (opS l[i]) < 0 then none else skip opS (l.drop (i + 1)) (w + (ar (opS l[i])).toNat)) with | some r => _ | none => _) = _
  have ha' : ar (opS l[i]) = (a : Int) := ha
  rw [ha', if_neg (by omega), Int.toNat_natCast]
theorem endW_zero {l : List S31} {i : Nat} (h : i ≤ l.length) : endW l i 0 = i := by
  unfold endW
  rw [skip_zero]
  show (l.length : Int) - ((l.drop i).length : Nat) = i
  rw [List.length_drop]; omega

theorem end_l0 (l : List S31) (hl : l.length ≤ 100000) : ∀ (n i w : Nat), i ≤ l.length → l.length - i = n → w + 3 * n ≤ 1000000 → Ev (fun k => term_End.l0 k l (i : Int) (w : Int)) (endW l i w) := by
  intro n
  induction n with
  | zero =>
    intro i w hi hn hw
    obtain rfl : i = l.length := by omega
    refine Ev.step (fun k => by simp only [term_End.l0]; rfl) ?_
    cases w with
    | zero => rw [endW_zero hi]; exact Pv.neg (by omega) (Ev.now _)
    | succ w => rw [endW_over (Nat.le_refl _)]; exact Pv.pos (by omega) (Pv.pos (by omega) (Ev.now _))
  | succ n ih =>
    intro i w hi hn hw
    have hlt : i < l.length := by omega
    refine Ev.step (fun k => by simp only [term_End.l0]; rfl) ?_
    cases w with
    | zero => rw [endW_zero hi]; exact Pv.neg (by omega) (Ev.now _)
    | succ w =>
      refine Pv.pos (by omega) (Pv.neg (by omega) (Pv.pos (by omega) (Pv.pos (by omega) ?_)))
      rw [rdT hlt]
      refine Ev.bind (arity _) ?_
      have hr := ar_range (l[i]).f0
      by_cases hneg : ar (l[i]).f0 < 0
      · rw [endW_none hlt hneg]; exact Pv.pos hneg (Ev.now _)
      · refine Pv.neg hneg (Ev.bind (arity _) ?_)
        obtain ⟨a, ha⟩ := Int.eq_ofNat_of_zero_le (show 0 ≤ ar (l[i]).f0 by omega)
        rw [endW_step hlt ha, ha]
        have e1 : wrap64 ((i : Int) + 1) = ((i + 1 : Nat) : Int) := by rw [Pv.w64 (by omega) (by omega)]; omega
        have e2 : wrap64 (((w + 1 : Nat) : Int) + wrap64 ((a : Int) - 1)) = ((w + a : Nat) : Int) := by
          rw [Pv.w64 (x := (a : Int) - 1) (by omega) (by omega), Pv.w64 (by omega) (by omega)]; omega
        rw [e1, e2]
        exact ih (i + 1) (w + a) (by omega) (by omega) (by omega)

theorem tend (l : List S31) (hl : l.length ≤ 100000) (i : Int) : Ev (fun k => term_End.f k l i) (endS l i) := by
  show Ev (fun k => if i < 0 then (some (-1)) else (term_End.l0 k l i 1)) _
  by_cases h : i < 0
  · unfold endS; rw [if_pos h]; exact Pv.pos h (Ev.now _)
  · refine Pv.neg h ?_
    obtain ⟨j, rfl⟩ := Int.eq_ofNat_of_zero_le (show 0 ≤ i by omega)
    rw [endS_nat]
    by_cases hj : j ≤ l.length
    · exact end_l0 l hl (l.length - j) j 1 hj rfl (by omega)
    · rw [endW_over (by omega)]
      refine Ev.step (fun k => by simp only [term_End.l0]; rfl) ?_
      exact Pv.pos (by omega) (Pv.pos (by omega) (Ev.now _))

theorem rend_l0 (l : List S31) (hl : l.length ≤ 100000) : ∀ (n i w : Nat), i ≤ l.length → l.length - i = n → w + 3 * n ≤ 1000000 → Ev (fun k => selfstabref05_End.l0 k l ((w + 1 : Nat) : Int) (i : Int)) (endW l i (w + 1)) := by
  intro n
  induction n with
  | zero =>
    intro i w hi hn hw
    obtain rfl : i = l.length := by omega
    refine Ev.step (fun k => by simp only [selfstabref05_End.l0]; rfl) ?_
    rw [endW_over (Nat.le_refl _)]; exact Pv.neg (by omega) (Ev.now _)
  | succ n ih =>
    intro i w hi hn hw
    have hlt : i < l.length := by omega
    refine Ev.step (fun k => by simp only [selfstabref05_End.l0]; rfl) ?_
    refine Pv.pos (by omega) (Pv.pos (by omega) ?_)
    rw [rdT hlt]
    refine Ev.bind (rarity _) ?_
    have hr := ar_range (l[i]).f0
    by_cases hneg : ar (l[i]).f0 < 0
    · rw [endW_none hlt hneg]; exact Pv.pos hneg (Ev.now _)
    · refine Pv.neg hneg ?_
      obtain ⟨a, ha⟩ := Int.eq_ofNat_of_zero_le (show 0 ≤ ar (l[i]).f0 by omega)
      rw [endW_step hlt ha, ha]
      have e1 : wrap64 ((i : Int) + 1) = ((i + 1 : Nat) : Int) := by rw [Pv.w64 (by omega) (by omega)]; omega
      have e2 : wrap64 (((w + 1 : Nat) : Int) + wrap64 ((a : Int) - 1)) = ((w + a : Nat) : Int) := by
        rw [Pv.w64 (x := (a : Int) - 1) (by omega) (by omega), Pv.w64 (by omega) (by omega)]; omega
      rw [e1, e2]
      cases hwa : w + a with
      | zero => rw [endW_zero (by omega)]; exact Pv.pos (by omega) (Ev.now _)
      | succ v => exact Pv.neg (by omega) (ih (i + 1) v (by omega) (by omega) (by omega))

theorem rend (l : List S31) (hl : l.length ≤ 100000) (i : Int) : Ev (fun k => selfstabref05_End.f k l i) (endS l i) := by
  show Ev (fun k => if i < 0 then (selfstabref05_End.j0 k l i true) else (selfstabref05_End.j0 k l i (decide (i ≥ (l.length : Int))))) _
  by_cases h : i < 0
  · unfold endS; rw [if_pos h]
    refine Pv.pos h (Ev.step (fun k => by simp only [selfstabref05_End.j0]; rfl) ?_)
    exact Pv.pos (by trivial) (Ev.now _)
  · refine Pv.neg h (Ev.step (fun k => by simp only [selfstabref05_End.j0]; rfl) ?_)
    obtain ⟨j, rfl⟩ := Int.eq_ofNat_of_zero_le (show 0 ≤ i by omega)
    rw [endS_nat]
    by_cases hj : j < l.length
    · refine Pv.neg (by simp; omega) ?_
      exact rend_l0 l hl (l.length - j) j 0 (by omega) rfl (by omega)
    · rw [endW_over (by omega)]
      exact Pv.pos (by simp; omega) (Ev.now _)

/-- n ends from a place on. -/
def ends (l : List S31) : Nat → Int → Int
  | 0, i => i
  | n + 1, i => ends l n (endS l i)
theorem ends_succ (l : List S31) : ∀ (n : Nat) (i : Int), ends l (n + 1) i = endS l (ends l n i)
  | 0, i => rfl
  | n + 1, i => ends_succ l n (endS l i)
def opd (l : List S31) (i j : Int) : Int := if endS l i < 0 then -1 else if j < 0 then -1 else if j ≥ ar (rd_T31 l i).f0 then -1 else ends l j.toNat (i + 1)
theorem endS_le (l : List S31) (i : Int) : -1 ≤ endS l i ∧ endS l i ≤ l.length := by
  unfold endS
  split
  · omega
  · split
    · rename_i r hr
      obtain ⟨f, hf⟩ := skip_suffix opS hr
      have h1 : r.length ≤ (l.drop i.toNat).length := by rw [hf]; simp
      rw [List.length_drop] at h1
      omega
    · omega
theorem endS_lt {l : List S31} {i : Int} (h : ¬ endS l i < 0) : 0 ≤ i ∧ i < l.length ∧ i < endS l i := by
  have h0 : ¬ i < 0 := fun hi => h (by unfold endS; rw [if_pos hi]; omega)
  obtain ⟨j, rfl⟩ := Int.eq_ofNat_of_zero_le (show 0 ≤ i by omega)
  rw [endS_nat] at h ⊢
  have hj : j < l.length := by
    rcases Nat.lt_or_ge j l.length with hj | hj
    · exact hj
    · exact absurd (by rw [endW_over hj]; omega) h
  refine ⟨by omega, by omega, ?_⟩
  unfold endW at h ⊢
  cases hs : skip opS (l.drop j) 1 with
  | none => rw [hs] at h; exact absurd (show (-1 : Int) < 0 by decide) h
  | some r =>
    obtain ⟨f, hf, hfr⟩ := Exs_of_skip opS _ _ _ hs
    have h1 : f.length ≠ 0 := fun h0 => hf.ne_nil opS (List.eq_nil_of_length_eq_zero h0)
    have h2 : (l.drop j).length = f.length + r.length := by rw [hfr]; simp
    rw [List.length_drop] at h2
    show (j : Int) < (l.length : Int) - r.length
    omega

theorem opd_loop (l : List S31) (hl : l.length ≤ 100000) (n : Nat) (hn : n ≤ 3) : ∀ (m i : Nat) (p : Int), i + m = n → Ev (fun k => term_Operand.l0 k l p (n : Int) (i : Int)) (ends l m p) := by
  intro m
  induction m with
  | zero =>
    intro i p hi
    refine Ev.step (fun k => by simp only [term_Operand.l0]; rfl) ?_
    exact Pv.neg (by omega) (Ev.now _)
  | succ m ih =>
    intro i p hi
    refine Ev.step (fun k => by simp only [term_Operand.l0]; rfl) ?_
    refine Pv.pos (by omega) (Ev.bind (tend l hl p) ?_)
    have e1 : wrap64 ((i : Int) + 1) = ((i + 1 : Nat) : Int) := by rw [Pv.w64 (by omega) (by omega)]; omega
    rw [e1]
    exact ih (i + 1) _ (by omega)
theorem topd (l : List S31) (hl : l.length ≤ 100000) (i j : Int) : Ev (fun k => term_Operand.f k l i j) (opd l i j) := by
  have stop : Ev (fun k => term_Operand.j0 k l i j true) (-1) := Ev.step (fun k => by simp only [term_Operand.j0]; rfl) (Pv.pos (by trivial) (Ev.now _))
  refine Ev.bind (tend l hl i) ?_
  unfold opd
  by_cases h : endS l i < 0
  · rw [if_pos h]; exact Pv.pos h stop
  · rw [if_neg h]
    obtain ⟨h0, h1, _⟩ := endS_lt h
    refine Pv.neg h ?_
    by_cases hj : j < 0
    · rw [if_pos hj]; exact Pv.pos hj stop
    · rw [if_neg hj]
      refine Pv.neg hj (Pv.pos h0 (Pv.pos h1 (Ev.bind (arity _) ?_)))
      by_cases hk : j ≥ ar (rd_T31 l i).f0
      · rw [if_pos hk, decide_eq_true hk]; exact stop
      · rw [if_neg hk, decide_eq_false hk]
        refine Ev.step (fun k => by simp only [term_Operand.j0]; rfl) (Pv.neg (by decide) ?_)
        rw [Pv.w64 (by omega) (by omega)]
        have hr := ar_range (rd_T31 l i).f0
        obtain ⟨n, rfl⟩ := Int.eq_ofNat_of_zero_le (show 0 ≤ j by omega)
        exact opd_loop l hl n (by omega) n 0 _ (by omega)
theorem ropd_loop (l : List S31) (hl : l.length ≤ 100000) (n : Nat) (hn : n ≤ 3) : ∀ (m i : Nat) (p : Int), i + m = n → Ev (fun k => selfstabref05_Operand.l0 k l (n : Int) p (i : Int)) (ends l m p) := by
  intro m
  induction m with
  | zero =>
    intro i p hi
    refine Ev.step (fun k => by simp only [selfstabref05_Operand.l0]; rfl) ?_
    exact Pv.neg (by omega) (Ev.now _)
  | succ m ih =>
    intro i p hi
    refine Ev.step (fun k => by simp only [selfstabref05_Operand.l0]; rfl) ?_
    refine Pv.pos (by omega) (Ev.bind (rend l hl p) ?_)
    have e1 : wrap64 ((i : Int) + 1) = ((i + 1 : Nat) : Int) := by rw [Pv.w64 (by omega) (by omega)]; omega
    rw [e1]
    exact ih (i + 1) _ (by omega)
theorem ropd (l : List S31) (hl : l.length ≤ 100000) (i j : Int) : Ev (fun k => selfstabref05_Operand.f k l i j) (opd l i j) := by
  have stop : Ev (fun k => selfstabref05_Operand.j0 k l i j true) (-1) := Ev.step (fun k => by simp only [selfstabref05_Operand.j0]; rfl) (Pv.pos (by trivial) (Ev.now _))
  refine Ev.bind (rend l hl i) ?_
  unfold opd
  by_cases h : endS l i < 0
  · rw [if_pos h]; exact Pv.pos h stop
  · rw [if_neg h]
    obtain ⟨h0, h1, _⟩ := endS_lt h
    refine Pv.neg h ?_
    by_cases hj : j < 0
    · rw [if_pos hj]; exact Pv.pos hj stop
    · rw [if_neg hj]
      refine Pv.neg hj (Pv.pos h0 (Pv.pos h1 (Ev.bind (rarity _) ?_)))
      by_cases hk : j ≥ ar (rd_T31 l i).f0
      · rw [if_pos hk, decide_eq_true hk]; exact stop
      · rw [if_neg hk, decide_eq_false hk]
        refine Ev.step (fun k => by simp only [selfstabref05_Operand.j0]; rfl) (Pv.neg (by decide) ?_)
        rw [Pv.w64 (by omega) (by omega)]
        have hr := ar_range (rd_T31 l i).f0
        obtain ⟨n, rfl⟩ := Int.eq_ofNat_of_zero_le (show 0 ≤ j by omega)
        exact ropd_loop l hl n (by omega) n 0 _ (by omega)

/-- Is a list one expression? -/
def oneS (l : List S31) : Bool := endS l 0 == (l.length : Int)
theorem oneS_iff (l : List S31) : oneS l = true ↔ Exs opS 1 l := by
  unfold oneS
  rw [show (0 : Int) = ((0 : Nat) : Int) from rfl, endS_nat, beq_iff_eq]
  unfold endW
  rw [List.drop_zero]
  constructor
  · intro h
    cases hs : skip opS l 1 with
    | none => rw [hs] at h; simp only at h; omega
    | some r =>
      rw [hs] at h
      obtain ⟨f, hf, rfl⟩ := Exs_of_skip opS _ _ _ hs
      have : r.length = 0 := by simp only [List.length_append] at h; omega
      rw [List.eq_nil_of_length_eq_zero this, List.append_nil]
      exact hf
  · intro h
    have := skip_of_Exs' opS h []
    rw [List.append_nil] at this
    rw [this]
    simp
theorem tone (l : List S31) (hl : l.length ≤ 100000) : Ev (fun k => term_one.f k l) (oneS l) :=
  Ev.bind (tend l hl 0) (Ev.now _)
theorem oneS_nil : oneS [] = false := by decide
theorem rone (l : List S31) (hl : l.length ≤ 100000) : Ev (fun k => selfstabref05_one.f k l) (oneS l) := by
  show Ev (fun k => if (l.length : Int) > 0 then _ else some false) _
  by_cases h : (l.length : Int) > 0
  · exact Pv.pos h (Ev.bind (rend l hl 0) (Ev.now _))
  · have : l = [] := List.eq_nil_of_length_eq_zero (by omega)
    subst this
    exact Pv.neg h (Pv.as (Ev.now _) oneS_nil.symm)
end Go.Proofs.Ytbjigmgiecgolaa.Fn05
