/- Cutting and joining texts: what is skipped, and which tokens there are. -/
import Derived.Test.YtanickojbgceaaaMath04b
namespace Go.Proofs.Ytanickojbgceaaa.Math04
theorem skip_cut : ∀ (b : Bool) (q v r : List Int), skipS b (q ++ (v ++ r)) = v ++ r → skipS b (q ++ v) = v
  | false, [], [], r, h => rfl
  | true, [], [], r, h => rfl
  | false, [], c :: cs, r, h => by
    rw [List.nil_append, List.cons_append] at h
    rw [List.nil_append]
    unfold skipS at h ⊢
    by_cases h1 : blankB c = true
    · rw [if_pos h1] at h
      have := skipS_le false (cs ++ r)
      rw [h] at this; simp at this; omega
    · rw [if_neg h1] at h ⊢
      by_cases h2 : c = 35
      · rw [if_pos h2] at h
        have := skipS_le true (cs ++ r)
        rw [h] at this; simp at this; omega
      · rw [if_neg h2]
  | true, [], c :: cs, r, h => by
    rw [List.nil_append, List.cons_append] at h
    exfalso
    unfold skipS at h
    by_cases h1 : c = 10
    · rw [if_pos h1] at h
      have := skipS_le false (cs ++ r)
      rw [h] at this; simp at this; omega
    · rw [if_neg h1] at h
      have := skipS_le true (cs ++ r)
      rw [h] at this; simp at this; omega
  | false, c :: q, v, r, h => by
    rw [List.cons_append] at h ⊢
    unfold skipS at h ⊢
    by_cases h1 : blankB c = true
    · rw [if_pos h1] at h ⊢; exact skip_cut false q v r h
    · rw [if_neg h1] at h ⊢
      by_cases h2 : c = 35
      · rw [if_pos h2] at h ⊢; exact skip_cut true q v r h
      · rw [if_neg h2] at h
        have := congrArg List.length h
        simp at this; omega
  | true, c :: q, v, r, h => by
    rw [List.cons_append] at h ⊢
    unfold skipS at h ⊢
    by_cases h1 : c = 10
    · rw [if_pos h1] at h ⊢; exact skip_cut false q v r h
    · rw [if_neg h1] at h ⊢; exact skip_cut true q v r h
theorem skip_cut0 {b : Bool} {q r : List Int} (h : skipS b (q ++ r) = r) : skipS b q = [] := by
  have := skip_cut b q [] r h
  rwa [List.append_nil] at this
theorem skip_more : ∀ (b : Bool) (l x : List Int), skipS b l ≠ [] → skipS b (l ++ x) = skipS b l ++ x
  | false, [], x, h => absurd rfl h
  | true, [], x, h => absurd rfl h
  | false, c :: l, x, h => by
    rw [List.cons_append]
    unfold skipS at h ⊢
    by_cases h1 : blankB c = true
    · rw [if_pos h1] at h ⊢; rw [if_pos h1]; exact skip_more false l x h
    · rw [if_neg h1] at h ⊢; rw [if_neg h1]
      by_cases h2 : c = 35
      · rw [if_pos h2] at h ⊢; rw [if_pos h2]; exact skip_more true l x h
      · rw [if_neg h2, if_neg h2]; rfl
  | true, c :: l, x, h => by
    rw [List.cons_append]
    unfold skipS at h ⊢
    by_cases h1 : c = 10
    · rw [if_pos h1] at h ⊢; rw [if_pos h1]; exact skip_more false l x h
    · rw [if_neg h1] at h ⊢; rw [if_neg h1]; exact skip_more true l x h
theorem skip_end : ∀ (b : Bool) (l x : List Int), skipS b l = [] → ∃ b2, skipS b (l ++ x) = skipS b2 x
  | false, [], x, h => ⟨false, rfl⟩
  | true, [], x, h => ⟨true, rfl⟩
  | false, c :: l, x, h => by
    rw [List.cons_append]
    unfold skipS at h
    by_cases h1 : blankB c = true
    · rw [if_pos h1] at h
      obtain ⟨b2, hb⟩ := skip_end false l x h
      exact ⟨b2, by conv => { lhs; unfold skipS }; rw [if_pos h1]; exact hb⟩
    · rw [if_neg h1] at h
      by_cases h2 : c = 35
      · rw [if_pos h2] at h
        obtain ⟨b2, hb⟩ := skip_end true l x h
        exact ⟨b2, by conv => { lhs; unfold skipS }; rw [if_neg h1, if_pos h2]; exact hb⟩
      · rw [if_neg h2] at h; exact absurd h (by simp)
  | true, c :: l, x, h => by
    rw [List.cons_append]
    unfold skipS at h
    by_cases h1 : c = 10
    · rw [if_pos h1] at h
      obtain ⟨b2, hb⟩ := skip_end false l x h
      exact ⟨b2, by conv => { lhs; unfold skipS }; rw [if_pos h1]; exact hb⟩
    · rw [if_neg h1] at h
      obtain ⟨b2, hb⟩ := skip_end true l x h
      exact ⟨b2, by conv => { lhs; unfold skipS }; rw [if_neg h1]; exact hb⟩
theorem tok_cases (r : List Int) : (tok r).2.2.2 ≠ 0 ∨ (∃ n, tok r = (1, n, 0, 0)) ∨ (tok r = (2, (r.takeWhile digitB).length, numV (r.takeWhile digitB), 0) ∧ numOK (r.takeWhile digitB) = true) ∨ (∃ n, tok r = (3, n, 0, 0)) := by
  cases r with
  | nil => left; decide
  | cons c cs =>
    by_cases h1 : letterB c = true
    · rw [tok_word h1]
      by_cases h2 : 24 < ((c :: cs).takeWhile innerB).length
      · rw [if_pos h2]; left; show ¬ (5 : Int) = 0; decide
      · rw [if_neg h2]; exact Or.inr (Or.inl ⟨_, rfl⟩)
    · by_cases h3 : digitB c = true
      · rw [tok_num h1 h3]
        by_cases h4 : numOK ((c :: cs).takeWhile digitB) = true
        · rw [if_pos h4]; exact Or.inr (Or.inr (Or.inl ⟨rfl, h4⟩))
        · rw [if_neg h4]; left; show ¬ (2 : Int) = 0; decide
      · have one : (sign1 c).2.2.2 ≠ 0 ∨ ∃ n, sign1 c = (3, n, 0, 0) := by
          unfold sign1
          by_cases hs : short1 c = true
          · rw [if_pos hs]; exact Or.inr ⟨1, rfl⟩
          · rw [if_neg hs]; left; show ¬ (4 : Int) = 0; decide
        have lift : ∀ q, q = sign1 c → q.2.2.2 ≠ 0 ∨ (∃ n, q = ((1 : Int), n, (0 : Int), (0 : Int))) ∨ (q = (2, ((c :: cs).takeWhile digitB).length, numV ((c :: cs).takeWhile digitB), 0) ∧ numOK ((c :: cs).takeWhile digitB) = true) ∨ (∃ n, q = (3, n, 0, 0)) := by
          intro q hq
          subst hq
          rcases one with h | h
          · exact Or.inl h
          · exact Or.inr (Or.inr (Or.inr h))
        cases cs with
        | nil => exact lift _ (tok_last h1 h3)
        | cons d ds =>
          by_cases h5 : long2 c d = true
          · rw [tok_two h1 h3, if_pos h5]; exact Or.inr (Or.inr (Or.inr ⟨2, rfl⟩))
          · refine lift _ ?_
            rw [tok_two h1 h3, if_neg h5]
theorem Lx.mem {r : List Int} {ts : List Tk} {o : Option (List Int × Int)} (h : Lx r ts o) : ∀ t ∈ ts, t.2.1 <:+ r ∧ (tok t.2.1).2.2.2 = 0 ∧ t = ((tok t.2.1).1, t.2.1, (tok t.2.1).2.1, (tok t.2.1).2.2.1) := by
  induction h with
  | nil => intro t ht; cases ht
  | err _ _ => intro t ht; cases ht
  | @cons r ts o h1 h2 h3 ih =>
    intro t ht
    rcases List.mem_cons.mp ht with rfl | ht
    · exact ⟨List.suffix_refl _, h2, rfl⟩
    · obtain ⟨i1, i2, i3⟩ := ih t ht
      obtain ⟨p, hp⟩ := skipS_suffix false (r.drop (tok r).2.1)
      exact ⟨(i1.trans ⟨p, hp.symm⟩).trans (List.drop_suffix _ _), i2, i3⟩
theorem Lx.len {r : List Int} {ts : List Tk} {o : Option (List Int × Int)} (h : Lx r ts o) : ts.length ≤ r.length := by
  induction h with
  | nil => exact Nat.le_refl _
  | err _ _ => exact Nat.zero_le _
  | @cons r ts o h1 h2 h3 ih =>
    have := next_lt h2
    show _ + 1 ≤ _
    omega
/-- The bytes of one token are this token alone. -/
theorem Lx.alone {r : List Int} (h : (tok r).2.2.2 = 0) : skipS false (r.take (tok r).2.1) = r.take (tok r).2.1 ∧ Lx (r.take (tok r).2.1) [((tok r).1, r.take (tok r).2.1, (tok r).2.1, (tok r).2.2.1)] none := by
  have hl := tok_len h
  have hs := tok_self h
  have hlen : (r.take (tok r).2.1).length = (tok r).2.1 := by rw [List.length_take]; omega
  constructor
  · cases r with
    | nil => exact absurd h (by decide)
    | cons c cs =>
      have hc := tok_head h
      obtain ⟨n, hn⟩ : ∃ n, (tok (c :: cs)).2.1 = n + 1 := ⟨(tok (c :: cs)).2.1 - 1, by omega⟩
      rw [hn, List.take_succ_cons]
      exact skip_of_not hc
  · have z := Lx.cons (r := r.take (tok r).2.1) (ts := []) (e := none) (by intro e; rw [e] at hlen; simp at hlen; omega) (by rw [hs]; exact h) (by rw [hs, List.drop_of_length_le (by omega)]; exact Lx.nil)
    rw [hs] at z
    exact z
/-- The text before the error. -/
theorem Lx.before {r : List Int} {ts : List Tk} {o : Option (List Int × Int)} (h : Lx r ts o) : ∀ q e, o = some (q, e) → ∃ p ts2, r = p ++ q ∧ Lx p ts2 none := by
  induction h with
  | nil => intro q e h; cases h
  | err h1 h2 => intro q e h; cases h; exact ⟨[], [], rfl, .nil⟩
  | @cons r ts o h1 h2 h3 ih =>
    intro q e ho
    obtain ⟨p, ts2, hp, hx⟩ := ih q e ho
    obtain ⟨g, hg⟩ := skipS_suffix false (r.drop (tok r).2.1)
    have hr : r = r.take (tok r).2.1 ++ (g ++ p) ++ q := by
      have : r.drop (tok r).2.1 = g ++ (p ++ q) := by rw [← hp]; exact hg
      rw [List.append_assoc, List.append_assoc, ← this, List.take_append_drop]
    have hl := tok_len h2
    have hlen : (r.take (tok r).2.1).length = (tok r).2.1 := by rw [List.length_take]; omega
    have ht : tok (r.take (tok r).2.1 ++ (g ++ p)) = tok r := by
      refine tok_cut h2 ⟨q, ?_⟩
      rw [List.append_assoc, ← hp, ← hg]
    refine ⟨r.take (tok r).2.1 ++ (g ++ p), _, hr, Lx.cons (ts := ts2) (by intro e; have := congrArg List.length e; rw [List.length_append, hlen, List.length_nil] at this; omega) (by rw [ht]; exact h2) ?_⟩
    rw [ht]
    have hd : (r.take (tok r).2.1 ++ (g ++ p)).drop (tok r).2.1 = g ++ p := by
      conv => lhs; arg 1; rw [← hlen]
      exact List.drop_left
    have hs : skipS false (g ++ p) = p := by
      refine skip_cut false g p q ?_
      rw [← hp, ← hg]
    rw [hd, hs]; exact hx
/-- What stands behind a separator changes no token before it. -/
theorem Lx.err_app {r : List Int} {ts : List Tk} {o : Option (List Int × Int)} (h : Lx r ts o) {d : Int} (hd : sepB d = true) (y : List Int) : ∀ q e, o = some (q, e) → ∃ ts2, Lx (r ++ d :: y) ts2 (some (q ++ d :: y, e)) := by
  induction h with
  | nil => intro q e h; cases h
  | @err r h1 h2 =>
    intro q e h; cases h
    have ht := tok_app h1 hd y
    have z := Lx.err (r := r ++ d :: y) (by simp) (by rw [ht]; exact h2)
    rw [ht] at z
    exact ⟨[], z⟩
  | @cons r ts o h1 h2 h3 ih =>
    intro q e ho
    obtain ⟨ts2, hx⟩ := ih q e ho
    have ht := tok_app h1 hd y
    have hne : skipS false (r.drop (tok r).2.1) ≠ [] := by
      intro e0
      rw [e0] at h3
      cases h3 with
      | nil => cases ho
      | err h _ => exact h rfl
      | cons h _ _ => exact h rfl
    have hl := tok_len h2
    refine ⟨_, Lx.cons (ts := ts2) (by simp) (by rw [ht]; exact h2) ?_⟩
    rw [ht, List.drop_append_of_le_length hl.2, skip_more false _ _ hne]
    exact hx
def ext (x : List Int) (t : Tk) : Tk := (t.1, t.2.1 ++ x, t.2.2.1, t.2.2.2)
theorem skip_sp (b : Bool) (y : List Int) : skipS b (32 :: 10 :: y) = skipS false y := by
  cases b <;> simp [skipS, blankB]
theorem Lx.ok_app {r : List Int} {ts : List Tk} {o : Option (List Int × Int)} (h : Lx r ts o) (y : List Int) : o = none → r ≠ [] → ∃ ts2 o2, Lx (r ++ 32 :: 10 :: y) (ts.map (ext (32 :: 10 :: y)) ++ ts2) o2 := by
  induction h with
  | nil => intro _ h; exact absurd rfl h
  | err _ _ => intro h; cases h
  | @cons r ts o h1 h2 h3 ih =>
    intro ho _
    have ht := tok_app h1 (d := 32) (by decide) (10 :: y)
    have hl := tok_len h2
    by_cases he : skipS false (r.drop (tok r).2.1) = []
    · obtain ⟨b2, hb⟩ := skip_end false _ (32 :: 10 :: y) he
      rw [skip_sp] at hb
      obtain ⟨ts2, o2, hx⟩ := Lx.ex _ (skipS false y) (Nat.le_refl _)
      have hts : ts = [] := by
        rw [he] at h3
        cases h3 with
        | nil => rfl
        | err h _ => rfl
        | cons h _ _ => exact absurd rfl h
      subst hts
      refine ⟨ts2, o2, ?_⟩
      have z := Lx.cons (r := r ++ 32 :: 10 :: y) (ts := ts2) (e := o2) (by simp) (by rw [ht]; exact h2) (by
        rw [ht, List.drop_append_of_le_length hl.2, hb]; exact hx)
      rw [ht] at z
      exact z
    · obtain ⟨ts2, o2, hx⟩ := ih ho he
      refine ⟨ts2, o2, ?_⟩
      have z := Lx.cons (r := r ++ 32 :: 10 :: y) (ts := ts.map (ext (32 :: 10 :: y)) ++ ts2) (e := o2) (by simp) (by rw [ht]; exact h2) (by
        rw [ht, List.drop_append_of_le_length hl.2, skip_more false _ _ he]; exact hx)
      rw [ht] at z
      exact z
end Go.Proofs.Ytanickojbgceaaa.Math04
