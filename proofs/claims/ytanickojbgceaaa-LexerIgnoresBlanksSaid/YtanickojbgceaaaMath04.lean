/- Tokens, without any program: what is skipped (skipS), which token begins a list of bytes (tok), and all tokens of a list of bytes (scanF). Bytes are whole numbers. -/
import Init
namespace Go.Proofs.Ytanickojbgceaaa.Math04

def letterB (c : Int) : Bool := (decide (97 ≤ c) && decide (c ≤ 122)) || (decide (65 ≤ c) && decide (c ≤ 90))
def digitB (c : Int) : Bool := decide (48 ≤ c) && decide (c ≤ 57)
def innerB (c : Int) : Bool := letterB c || (digitB c || c == 95)
def blankB (c : Int) : Bool := c == 32 || (c == 9 || (c == 10 || c == 13))
/-- What is left behind blanks and comments; true: inside of a comment. -/
def skipS : Bool → List Int → List Int
  | _, [] => []
  | false, c :: cs => if blankB c then skipS false cs else if c = 35 then skipS true cs else c :: cs
  | true, c :: cs => if c = 10 then skipS false cs else skipS true cs
def long2 (a b : Int) : Bool := [((46 : Int), (46 : Int)), (45, 62), (58, 61), (38, 38), (124, 124), (61, 61), (33, 61), (60, 61), (62, 61)].contains (a, b)
def short1 (c : Int) : Bool := [(59 : Int), 58, 44, 40, 41, 46, 63, 60, 62, 43, 45, 42, 47, 37, 33].contains c
def numV (w : List Int) : Int := w.foldl (fun v c => 10 * v + (c - 48)) 0
def numOK (w : List Int) : Bool := !(decide (1 < w.length) && w.head? == some 48) && (decide (w.length ≤ 10) && decide (numV w ≤ 1073741824))
/-- The token at the head: kind, length, value, error. -/
def sign1 (c : Int) : Int × Nat × Int × Int := if short1 c then (3, 1, 0, 0) else (0, 0, 0, 4)
def tok : List Int → Int × Nat × Int × Int
  | [] => (0, 0, 0, 4)
  | c :: cs =>
    if letterB c then (if 24 < ((c :: cs).takeWhile innerB).length then (0, 0, 0, 5) else (1, ((c :: cs).takeWhile innerB).length, 0, 0))
    else if digitB c then (if numOK ((c :: cs).takeWhile digitB) then (2, ((c :: cs).takeWhile digitB).length, numV ((c :: cs).takeWhile digitB), 0) else (0, 0, 0, 2))
    else match cs with
      | d :: _ => if long2 c d then (3, 2, 0, 0) else sign1 c
      | [] => sign1 c
theorem skipS_le : ∀ (b : Bool) (l : List Int), (skipS b l).length ≤ l.length
  | true, [] => Nat.le_refl _
  | false, [] => Nat.le_refl _
  | false, c :: cs => by
    unfold skipS
    split
    · have := skipS_le false cs; simp; omega
    · split
      · have := skipS_le true cs; simp; omega
      · exact Nat.le_refl _
  | true, c :: cs => by
    unfold skipS
    split
    · have := skipS_le false cs; simp; omega
    · have := skipS_le true cs; simp; omega
theorem skipS_suffix : ∀ (b : Bool) (l : List Int), ∃ p, l = p ++ skipS b l
  | true, [] => ⟨[], rfl⟩
  | false, [] => ⟨[], rfl⟩
  | false, c :: cs => by
    unfold skipS
    split
    · obtain ⟨p, hp⟩ := skipS_suffix false cs; exact ⟨c :: p, by rw [List.cons_append, ← hp]⟩
    · split
      · obtain ⟨p, hp⟩ := skipS_suffix true cs; exact ⟨c :: p, by rw [List.cons_append, ← hp]⟩
      · exact ⟨[], rfl⟩
  | true, c :: cs => by
    unfold skipS
    split
    · obtain ⟨p, hp⟩ := skipS_suffix false cs; exact ⟨c :: p, by rw [List.cons_append, ← hp]⟩
    · obtain ⟨p, hp⟩ := skipS_suffix true cs; exact ⟨c :: p, by rw [List.cons_append, ← hp]⟩
theorem skipS_drop (b : Bool) (l : List Int) : skipS b l = l.drop (l.length - (skipS b l).length) := by
  obtain ⟨p, hp⟩ := skipS_suffix b l
  have h : l.length = p.length + (skipS b l).length := by
    have := congrArg List.length hp
    rwa [List.length_append] at this
  have h2 : l.length - (skipS b l).length = p.length := by omega
  rw [h2]
  calc skipS b l = (p ++ skipS b l).drop p.length := (List.drop_left).symm
    _ = l.drop p.length := by rw [← hp]
theorem tw_length (p : Int → Bool) : ∀ l : List Int, (l.takeWhile p).length ≤ l.length
  | [] => Nat.le_refl _
  | c :: cs => by
    rw [List.takeWhile_cons]
    split
    · have := tw_length p cs; simp; omega
    · simp
theorem tok_word {c : Int} {cs : List Int} (h : letterB c = true) : tok (c :: cs) = if 24 < ((c :: cs).takeWhile innerB).length then (0, 0, 0, 5) else (1, ((c :: cs).takeWhile innerB).length, 0, 0) := by
  show (if letterB c = true then _ else _) = _
  rw [if_pos h]
theorem tok_num {c : Int} {cs : List Int} (h : ¬ letterB c = true) (h2 : digitB c = true) : tok (c :: cs) = if numOK ((c :: cs).takeWhile digitB) then (2, ((c :: cs).takeWhile digitB).length, numV ((c :: cs).takeWhile digitB), 0) else (0, 0, 0, 2) := by
  show (if letterB c = true then _ else if digitB c = true then _ else _) = _
  rw [if_neg h, if_pos h2]
theorem tok_two {c d : Int} {ds : List Int} (h : ¬ letterB c = true) (h2 : ¬ digitB c = true) : tok (c :: d :: ds) = if long2 c d then (3, 2, 0, 0) else sign1 c := by
  show (if letterB c = true then _ else if digitB c = true then _ else _) = _
  rw [if_neg h, if_neg h2]
theorem tok_last {c : Int} (h : ¬ letterB c = true) (h2 : ¬ digitB c = true) : tok [c] = sign1 c := by
  show (if letterB c = true then _ else if digitB c = true then _ else _) = _
  rw [if_neg h, if_neg h2]
theorem tok_len {l : List Int} (h : (tok l).2.2.2 = 0) : 1 ≤ (tok l).2.1 ∧ (tok l).2.1 ≤ l.length := by
  cases l with
  | nil => exact absurd h (by decide)
  | cons c cs =>
    have one : ∀ (q : (sign1 c).2.2.2 = 0), 1 ≤ (sign1 c).2.1 ∧ (sign1 c).2.1 ≤ (c :: cs).length := by
      intro q
      unfold sign1 at q ⊢
      by_cases hs : short1 c = true
      · rw [if_pos hs]; simp
      · rw [if_neg hs] at q; exact absurd q (show ¬ (4 : Int) = 0 by decide)
    by_cases h1 : letterB c = true
    · have hin : innerB c = true := by unfold innerB; rw [h1]; rfl
      rw [tok_word h1] at h ⊢
      by_cases h2 : 24 < ((c :: cs).takeWhile innerB).length
      · rw [if_pos h2] at h; exact absurd h (show ¬ (5 : Int) = 0 by decide)
      · rw [if_neg h2]
        refine ⟨?_, tw_length _ _⟩
        show 1 ≤ ((c :: cs).takeWhile innerB).length
        rw [List.takeWhile_cons, if_pos hin]; simp
    · by_cases h3 : digitB c = true
      · rw [tok_num h1 h3] at h ⊢
        by_cases h4 : numOK ((c :: cs).takeWhile digitB) = true
        · rw [if_pos h4]
          refine ⟨?_, tw_length _ _⟩
          show 1 ≤ ((c :: cs).takeWhile digitB).length
          rw [List.takeWhile_cons, if_pos h3]; simp
        · rw [if_neg h4] at h; exact absurd h (show ¬ (2 : Int) = 0 by decide)
      · cases cs with
        | nil => rw [tok_last h1 h3] at h ⊢; exact one h
        | cons d ds =>
          rw [tok_two h1 h3] at h ⊢
          by_cases h5 : long2 c d = true
          · rw [if_pos h5]; simp
          · rw [if_neg h5] at h ⊢; exact one h
end Go.Proofs.Ytanickojbgceaaa.Math04
