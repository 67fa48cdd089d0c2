/- Part of the proof of the law LexerLeavesBlanks: Math04c. -/
import Derived.Test.YtanickojbgceaaaLexerLeavesBlanksMath04b
namespace Go.Proofs.Ytanickojbgceaaa.Math04
theorem skip_cut : ∀ (b : Bool) (q v r : List Int), skipS b (q ++ (v ++ r)) = v ++ r → skipS b (q ++ v) = v
 | false, [], [], r, h => rfl
 | true, [], [], r, h => rfl
 | false, [], c :: cs, r, h => by
  rw [List.nil_append, List.cons_append] at h
  rw [List.nil_append]
  unfold skipS at h ⊢
  by_cases h1 : blankB c = true
  ·rw [if_pos h1] at h
   have := skipS_le false (cs ++ r)
   rw [h] at this; simp at this; omega
  ·rw [if_neg h1] at h ⊢
   by_cases h2 : c = 35
   ·rw [if_pos h2] at h
    have := skipS_le true (cs ++ r)
    rw [h] at this; simp at this; omega
   ·rw [if_neg h2]
 | true, [], c :: cs, r, h => by
  rw [List.nil_append, List.cons_append] at h
  exfalso
  unfold skipS at h
  by_cases h1 : c = 10
  ·rw [if_pos h1] at h
   have := skipS_le false (cs ++ r)
   rw [h] at this; simp at this; omega
  ·rw [if_neg h1] at h
   have := skipS_le true (cs ++ r)
   rw [h] at this; simp at this; omega
 | false, c :: q, v, r, h => by
  rw [List.cons_append] at h ⊢
  unfold skipS at h ⊢
  by_cases h1 : blankB c = true
  ·rw [if_pos h1] at h ⊢; exact skip_cut false q v r h
  ·rw [if_neg h1] at h ⊢
   by_cases h2 : c = 35
   ·rw [if_pos h2] at h ⊢; exact skip_cut true q v r h
   ·rw [if_neg h2] at h
    have := congrArg List.length h
    simp at this; omega
 | true, c :: q, v, r, h => by
  rw [List.cons_append] at h ⊢
  unfold skipS at h ⊢
  by_cases h1 : c = 10
  ·rw [if_pos h1] at h ⊢; exact skip_cut false q v r h
  ·rw [if_neg h1] at h ⊢; exact skip_cut true q v r h
theorem skip_cut0 {b : Bool} {q r : List Int} (h : skipS b (q ++ r) = r) : skipS b q = [] := by
 have := skip_cut b q [] r h
 rwa [List.append_nil] at this
theorem tok_cases (r : List Int) : (tok r).2.2.2 ≠ 0 ∨ (∃ n, tok r = (1, n, 0, 0)) ∨ (tok r = (2, (r.takeWhile digitB).length, numV (r.takeWhile digitB), 0) ∧ numOK (r.takeWhile digitB) = true) ∨ (∃ n, tok r = (3, n, 0, 0)) := by
 cases r with
 | nil => left; decide
 | cons c cs =>
  by_cases h1 : letterB c = true
  ·rw [tok_word h1]
   by_cases h2 : 24 < ((c :: cs).takeWhile innerB).length
   ·rw [if_pos h2]; left; show ¬ (5 : Int) = 0; decide
   ·rw [if_neg h2]; exact Or.inr (Or.inl ⟨_, rfl⟩)
  ·by_cases h3 : digitB c = true
   ·rw [tok_num h1 h3]
    by_cases h4 : numOK ((c :: cs).takeWhile digitB) = true
    ·rw [if_pos h4]; exact Or.inr (Or.inr (Or.inl ⟨rfl, h4⟩))
    ·rw [if_neg h4]; left; show ¬ (2 : Int) = 0; decide
   ·have one : (sign1 c).2.2.2 ≠ 0 ∨ ∃ n, sign1 c = (3, n, 0, 0) := by
     unfold sign1
     by_cases hs : short1 c = true
     ·rw [if_pos hs]; exact Or.inr ⟨1, rfl⟩
     ·rw [if_neg hs]; left; show ¬ (4 : Int) = 0; decide
    have lift : ∀ q, q = sign1 c → q.2.2.2 ≠ 0 ∨ (∃ n, q = ((1 : Int), n, (0 : Int), (0 : Int))) ∨ (q = (2, ((c :: cs).takeWhile digitB).length, numV ((c :: cs).takeWhile digitB), 0) ∧ numOK ((c :: cs).takeWhile digitB) = true) ∨ (∃ n, q = (3, n, 0, 0)) := by
     intro q hq;subst hq;rcases one with h | h
     ·exact Or.inl h
     ·exact Or.inr (Or.inr (Or.inr h))
    cases cs with
    | nil => exact lift _ (tok_last h1 h3)
    | cons d ds =>
     by_cases h5 : long2 c d = true
     ·rw [tok_two h1 h3, if_pos h5]; exact Or.inr (Or.inr (Or.inr ⟨2, rfl⟩))
     ·refine lift _ ?_
      rw [tok_two h1 h3, if_neg h5]
theorem Lx.len {r : List Int} {ts : List Tk} {o : Option (List Int × Int)} (h : Lx r ts o) : ts.length ≤ r.length := by
 induction h with
 | nil => exact Nat.le_refl _
 | err _ _ => exact Nat.zero_le _
 | @cons r ts o h1 h2 h3 ih =>
  have := next_lt h2
  show _ + 1 ≤ _
  omega
theorem Lx.before {r : List Int} {ts : List Tk} {o : Option (List Int × Int)} (h : Lx r ts o) : ∀ q e, o = some (q, e) → ∃ p ts2, r = p ++ q ∧ Lx p ts2 none := by
 induction h with
 | nil => intro q e h; cases h
 | err h1 h2 => intro q e h; cases h; exact ⟨[], [], rfl, .nil⟩
 | @cons r ts o h1 h2 h3 ih =>
  intro q e ho;obtain ⟨p, ts2, hp, hx⟩ := ih q e ho
  obtain ⟨g, hg⟩ := skipS_suffix false (r.drop (tok r).2.1)
  have hr : r = r.take (tok r).2.1 ++ (g ++ p) ++ q := by
   have : r.drop (tok r).2.1 = g ++ (p ++ q) := by rw [← hp]; exact hg
   rw [List.append_assoc, List.append_assoc, ← this, List.take_append_drop]
  have hl := tok_len h2
  have hlen : (r.take (tok r).2.1).length = (tok r).2.1 := by rw [List.length_take]; omega
  have ht : tok (r.take (tok r).2.1 ++ (g ++ p)) = tok r := by
   refine tok_cut h2 ⟨q, ?_⟩
   rw [List.append_assoc, ← hp, ← hg]
  refine ⟨r.take (tok r).2.1 ++ (g ++ p), _, hr, Lx.cons (ts := ts2) (by intro e; have := congrArg List.length e; rw [List.length_append, hlen, List.length_nil] at this; omega) (by rw [ht]; exact h2) ?_⟩
  rw [ht]
  have hd : (r.take (tok r).2.1 ++ (g ++ p)).drop (tok r).2.1 = g ++ p := by
   conv => lhs; arg 1; rw [← hlen]
   exact List.drop_left
  have hs : skipS false (g ++ p) = p := by
   refine skip_cut false g p q ?_
   rw [← hp, ← hg]
  rw [hd, hs]; exact hx
end Go.Proofs.Ytanickojbgceaaa.Math04
