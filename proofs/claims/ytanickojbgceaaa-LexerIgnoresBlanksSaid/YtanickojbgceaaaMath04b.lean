/- All tokens of a list of bytes, without any program: by rounds (lex), and as a relation (Lx). A token: kind, what begins with it, length, value. -/
import Derived.Test.YtanickojbgceaaaMath04
namespace Go.Proofs.Ytanickojbgceaaa.Math04
abbrev Tk := Int × List Int × Nat × Int
def lex : Nat → List Int → Nat → List Tk × List Int × Int
  | 0, _, _ => ([], [], 0)
  | f + 1, r, n =>
    if r = [] then ([], [], 0)
    else if n = 4096 then ([], r, 3)
    else if (tok r).2.2.2 ≠ 0 then ([], r, (tok r).2.2.2)
    else if (lex f (skipS false (r.drop (tok r).2.1)) (n + 1)).2.2 ≠ 0 then ([], (lex f (skipS false (r.drop (tok r).2.1)) (n + 1)).2)
    else (((tok r).1, r, (tok r).2.1, (tok r).2.2.1) :: (lex f (skipS false (r.drop (tok r).2.1)) (n + 1)).1, [], 0)
inductive Lx : List Int → List Tk → Option (List Int × Int) → Prop
  | nil : Lx [] [] none
  | err {r : List Int} : r ≠ [] → (tok r).2.2.2 ≠ 0 → Lx r [] (some (r, (tok r).2.2.2))
  | cons {r : List Int} {ts : List Tk} {e : Option (List Int × Int)} : r ≠ [] → (tok r).2.2.2 = 0 → Lx (skipS false (r.drop (tok r).2.1)) ts e → Lx r (((tok r).1, r, (tok r).2.1, (tok r).2.2.1) :: ts) e
def out : List Tk → Option (List Int × Int) → List Tk × List Int × Int
  | ts, none => (ts, [], 0)
  | _, some (r, e) => ([], r, e)
theorem next_lt {r : List Int} (h : (tok r).2.2.2 = 0) : (skipS false (r.drop (tok r).2.1)).length < r.length := by
  have h1 := tok_len h
  have h2 := skipS_le false (r.drop (tok r).2.1)
  rw [List.length_drop] at h2
  omega
theorem Lx.err_ne {r : List Int} {ts : List Tk} {o : Option (List Int × Int)} (h : Lx r ts o) : ∀ q e, o = some (q, e) → e ≠ 0 ∧ q ≠ [] := by
  induction h with
  | nil => intro q e h; cases h
  | err h1 h2 => intro q e h; cases h; exact ⟨h2, h1⟩
  | cons _ _ _ ih => exact ih
theorem Lx.lex_eq {r : List Int} {ts : List Tk} {o : Option (List Int × Int)} (h : Lx r ts o) : ∀ f n, r.length < f → r.length + n ≤ 4096 → lex f r n = out ts o := by
  induction h with
  | nil =>
    intro f n hf _
    cases f with
    | zero => exact absurd hf (Nat.not_lt_zero _)
    | succ f => unfold lex; rw [if_pos rfl]; rfl
  | @err r h1 h2 =>
    intro f n hf hn
    have hp : 0 < r.length := List.length_pos_iff.mpr h1
    cases f with
    | zero => exact absurd hf (Nat.not_lt_zero _)
    | succ f =>
      unfold lex; rw [if_neg h1, if_neg (by omega), if_pos h2]; rfl
  | @cons r ts o h1 h2 h3 ih =>
    intro f n hf hn
    have hp : 0 < r.length := List.length_pos_iff.mpr h1
    have hl := next_lt h2
    cases f with
    | zero => exact absurd hf (Nat.not_lt_zero _)
    | succ f =>
      unfold lex
      rw [if_neg h1, if_neg (by omega), if_neg (by simpa using h2), ih f (n + 1) (by omega) (by omega)]
      cases o with
      | none => rw [if_neg (by simp [out])]; rfl
      | some q =>
        obtain ⟨q, e⟩ := q
        rw [if_pos (show (out ts (some (q, e))).2.2 ≠ 0 from (h3.err_ne q e rfl).1)]; rfl
theorem Lx.ex (n : Nat) : ∀ r : List Int, r.length ≤ n → ∃ ts o, Lx r ts o := by
  induction n with
  | zero =>
    intro r hr
    obtain rfl := List.length_eq_zero_iff.mp (Nat.le_zero.mp hr)
    exact ⟨_, _, .nil⟩
  | succ n ih =>
    intro r hr
    by_cases h1 : r = []
    · subst h1; exact ⟨_, _, .nil⟩
    by_cases h2 : (tok r).2.2.2 = 0
    · have := next_lt h2
      obtain ⟨ts, o, h⟩ := ih (skipS false (r.drop (tok r).2.1)) (by omega)
      exact ⟨_, _, .cons h1 h2 h⟩
    · exact ⟨_, _, .err h1 h2⟩
/-- A byte that ends each token and is no part of one. -/
def sepB (c : Int) : Bool := blankB c || c == 35
theorem sep_not {c : Int} (h : sepB c = true) : innerB c = false ∧ digitB c = false ∧ letterB c = false ∧ short1 c = false ∧ ∀ a, long2 a c = false := by
  have : c = 32 ∨ c = 9 ∨ c = 10 ∨ c = 13 ∨ c = 35 := by
    simp only [sepB, blankB, Bool.or_eq_true, beq_iff_eq] at h
    omega
  rcases this with rfl | rfl | rfl | rfl | rfl <;> exact ⟨by decide, by decide, by decide, by decide, fun a => by simp [long2]⟩
theorem skip_of_not {c : Int} {cs : List Int} (h : sepB c = false) : skipS false (c :: cs) = c :: cs := by
  simp only [sepB, Bool.or_eq_false_iff, beq_eq_false_iff_ne] at h
  unfold skipS
  rw [if_neg (by simp [h.1]), if_neg h.2]
theorem tw_app {p : Int → Bool} {d : Int} (hd : p d = false) (y : List Int) : ∀ l : List Int, (l ++ d :: y).takeWhile p = l.takeWhile p
  | [] => by simp [hd]
  | c :: cs => by
    rw [List.cons_append, List.takeWhile_cons, List.takeWhile_cons, tw_app hd y cs]
/-- What follows behind a separator says nothing of the token. -/
theorem tok_app {l : List Int} (hl : l ≠ []) {d : Int} (hd : sepB d = true) (y : List Int) : tok (l ++ d :: y) = tok l := by
  obtain ⟨hi, hg, _, _, h2⟩ := sep_not hd
  cases l with
  | nil => exact absurd rfl hl
  | cons c cs =>
    have e1 : (c :: (cs ++ d :: y)).takeWhile innerB = (c :: cs).takeWhile innerB := tw_app hi y (c :: cs)
    have e2 : (c :: (cs ++ d :: y)).takeWhile digitB = (c :: cs).takeWhile digitB := tw_app hg y (c :: cs)
    rw [List.cons_append]
    by_cases h1 : letterB c = true
    · rw [tok_word h1, tok_word h1, e1]
    · by_cases h3 : digitB c = true
      · rw [tok_num h1 h3, tok_num h1 h3, e2]
      · cases cs with
        | nil => rw [List.nil_append, tok_two h1 h3, tok_last h1 h3, h2 c]; rfl
        | cons e es => rw [List.cons_append, tok_two h1 h3, tok_two h1 h3]
theorem tw_cut {p : Int → Bool} : ∀ (l z : List Int), z <+: l.dropWhile p → (l.takeWhile p ++ z).takeWhile p = l.takeWhile p
  | [], z, h => by simp at h; simp [h]
  | c :: cs, z, h => by
    by_cases hc : p c = true
    · rw [List.dropWhile_cons, if_pos hc] at h
      rw [List.takeWhile_cons, if_pos hc, List.cons_append, List.takeWhile_cons, if_pos hc, tw_cut cs z h]
    · rw [List.dropWhile_cons, if_neg hc] at h
      rw [List.takeWhile_cons, if_neg hc, List.nil_append]
      cases z with
      | nil => rfl
      | cons d ds =>
        obtain ⟨u, hu⟩ := h
        injection hu with hu _
        subst hu
        rw [List.takeWhile_cons, if_neg hc]
theorem take_tw {p : Int → Bool} (l : List Int) : l.take (l.takeWhile p).length = l.takeWhile p := by
  conv => lhs; rw [← List.takeWhile_append_dropWhile (p := p) (l := l)]
  rw [List.take_append_of_le_length (by rw [List.takeWhile_append_dropWhile]; exact Nat.le_refl _)]
  rw [List.takeWhile_append_dropWhile, List.take_length]
theorem drop_tw {p : Int → Bool} (l : List Int) : l.drop (l.takeWhile p).length = l.dropWhile p := by
  conv => lhs; arg 2; rw [← List.takeWhile_append_dropWhile (p := p) (l := l)]
  exact List.drop_left
/-- The token's own bytes, and any beginning of what follows, have the same token. -/
theorem tok_cut {r : List Int} (h : (tok r).2.2.2 = 0) {z : List Int} (hz : z <+: r.drop (tok r).2.1) : tok (r.take (tok r).2.1 ++ z) = tok r := by
  cases r with
  | nil => exact absurd h (by decide)
  | cons c cs =>
    by_cases h1 : letterB c = true
    · have hin : innerB c = true := by unfold innerB; rw [h1]; rfl
      have e := tok_word (cs := cs) h1
      by_cases h2 : 24 < ((c :: cs).takeWhile innerB).length
      · rw [e, if_pos h2] at h; exact absurd h (show ¬ (5 : Int) = 0 by decide)
      · rw [if_neg h2] at e
        have el : (tok (c :: cs)).2.1 = ((c :: cs).takeWhile innerB).length := by rw [e]
        rw [el] at hz ⊢
        rw [take_tw]
        rw [drop_tw] at hz
        have hc := tw_cut (c :: cs) z hz
        have hh : (c :: cs).takeWhile innerB ++ z = c :: (cs.takeWhile innerB ++ z) := by rw [List.takeWhile_cons, if_pos hin]; rfl
        rw [hh] at hc ⊢
        rw [tok_word h1, hc, e, if_neg h2]
    · by_cases h3 : digitB c = true
      · have e := tok_num (cs := cs) h1 h3
        by_cases h4 : numOK ((c :: cs).takeWhile digitB) = true
        · rw [if_pos h4] at e
          have el : (tok (c :: cs)).2.1 = ((c :: cs).takeWhile digitB).length := by rw [e]
          rw [el] at hz ⊢
          rw [take_tw]
          rw [drop_tw] at hz
          have hc := tw_cut (c :: cs) z hz
          have hh : (c :: cs).takeWhile digitB ++ z = c :: (cs.takeWhile digitB ++ z) := by rw [List.takeWhile_cons, if_pos h3]; rfl
          rw [hh] at hc ⊢
          rw [tok_num h1 h3, hc, e, if_pos h4]
        · rw [e, if_neg h4] at h; exact absurd h (show ¬ (2 : Int) = 0 by decide)
      · have one : (sign1 c).2.2.2 = 0 → (sign1 c) = (3, 1, 0, 0) := by
          intro q
          unfold sign1 at q ⊢
          by_cases hs : short1 c = true
          · rw [if_pos hs]
          · rw [if_neg hs] at q; exact absurd q (show ¬ (4 : Int) = 0 by decide)
        cases cs with
        | nil =>
          have e := tok_last h1 h3
          rw [e] at h hz ⊢
          rw [one h] at hz ⊢
          have : z = [] := by simpa using hz
          subst this
          show tok [c] = _
          rw [e, one h]
        | cons d ds =>
          have e := tok_two (ds := ds) (d := d) h1 h3
          by_cases h5 : long2 c d = true
          · rw [if_pos h5] at e
            rw [e]
            show tok (c :: d :: z) = _
            rw [tok_two h1 h3, if_pos h5]
          · rw [if_neg h5] at e
            rw [e] at h hz ⊢
            rw [one h] at hz ⊢
            have hz' : z <+: d :: ds := hz
            show tok (c :: z) = _
            cases z with
            | nil => rw [tok_last h1 h3, one h]
            | cons x xs =>
              obtain ⟨u, hu⟩ := hz'
              injection hu with hu _
              subst hu
              rw [tok_two h1 h3, if_neg h5, one h]
theorem tok_self {r : List Int} (h : (tok r).2.2.2 = 0) : tok (r.take (tok r).2.1) = tok r := by
  have := tok_cut h (z := []) (List.nil_prefix)
  rwa [List.append_nil] at this
theorem tok_head {c : Int} {cs : List Int} (h : (tok (c :: cs)).2.2.2 = 0) : sepB c = false := by
  cases hs : sepB c with
  | false => rfl
  | true =>
    exfalso
    obtain ⟨_, hg, hl, h1, _⟩ := sep_not hs
    have hc : c = 32 ∨ c = 9 ∨ c = 10 ∨ c = 13 ∨ c = 35 := by
      simp only [sepB, blankB, Bool.or_eq_true, beq_iff_eq] at hs
      omega
    have hl2 : ∀ d, long2 c d = false := by
      rcases hc with rfl | rfl | rfl | rfl | rfl <;> exact fun a => by simp [long2]
    have s1 : (sign1 c).2.2.2 ≠ 0 := by unfold sign1; rw [h1]; decide
    cases cs with
    | nil => rw [tok_last (by simp [hl]) (by simp [hg])] at h; exact s1 h
    | cons d ds =>
      rw [tok_two (by simp [hl]) (by simp [hg]), hl2 d] at h; exact s1 h
end Go.Proofs.Ytanickojbgceaaa.Math04
