/- What the lexer's small functions and the reference's answer: skips and runs. -/
import Derived.Test.YtanickojbgceaaaP8
import Derived.Test.YtanickojbgceaaaBs
import Derived.Test.YtanickojbgceaaaMath04b
namespace Go.Proofs.Ytanickojbgceaaa.Fn04
open Go.RowKit Go.Proofs.Ytanickojbgceaaa.P Go.Proofs.YtanickojbgceaaaW.PrintWords Go.Proofs.YtanickojbgceaaaW.PrintLast Go.Proofs.YtanickojbgceaaaW.PrintMore Go.Proofs.Ytanickojbgceaaa.Math04 Go.Proofs.Ytanickojbgceaaa.Bs
set_option linter.unusedVariables false
set_option linter.unusedSimpArgs false
theorem beqf {a b : Int} (h : ¬ a = b) : (a == b) = false := by rw [beq_eq_false_iff_ne]; exact h
theorem blank_eq (c : Int) : lexer_blank.f c = some (blankB c) := by
  unfold lexer_blank.f blankB
  by_cases h1 : c = 32
  · simp [h1]
  by_cases h2 : c = 9
  · simp [h2]
  by_cases h3 : c = 10
  · simp [h3]
  simp only [h1, h2, h3, if_false, beqf h1, beqf h2, beqf h3, Bool.false_or]
theorem letter_eq (c : Int) : lexer_letter.f c = some (letterB c) := by
  unfold lexer_letter.f letterB
  by_cases h1 : 97 ≤ c
  · by_cases h2 : c ≤ 122
    · simp [h1, h2]
    · have h3 : 65 ≤ c := by omega
      simp [h1, h2, h3]
  · by_cases h3 : 65 ≤ c
    · simp [h1, h3]
    · simp [h1, h3]
theorem digit_eq (c : Int) : lexer_digit.f c = some (digitB c) := by
  unfold lexer_digit.f digitB
  by_cases h1 : 48 ≤ c
  · simp [h1]
  · simp [h1]
theorem inside_eq (c : Int) : lexer_inside.f c = some (innerB c) := by
  unfold lexer_inside.f innerB
  rw [letter_eq, digit_eq]
  cases letterB c <;> cases digitB c <;> rfl
theorem rletter_eq (c : Int) : selfstabref04_Letter.f c = some (letterB c) := letter_eq c
theorem rdigit_eq (c : Int) : selfstabref04_Digit.f c = some (digitB c) := digit_eq c
theorem rinner_eq (c : Int) : selfstabref04_inner.f c = some (innerB c) := inside_eq c
def small (a : ByteArray) : Prop := a.size ≤ 9223372036854775806
theorem w1 {a : ByteArray} (ha : small a) {c : Int} {l : List Int} (h : c :: l <:+ bs a) : wrap64 (pos a (c :: l) + 1) = pos a l := by
  have h1 := pos_ge h
  have h2 := pos_lt a c l
  rw [Pv.w64 (by omega) (by unfold small at ha; omega), pos_cons]
/-- A run of bytes of one sort. -/
theorem run (L : Nat → ByteArray → Int → Option Int) (J : Nat → ByteArray → Int → Bool → Option Int) (g : Int → Option Bool) (q : Int → Bool) (hq : ∀ c, g c = some (q c))
    (hL : ∀ k x i, L (k + 1) x i = if i < (x.size : Int) then (if 0 ≤ i then ((g (bt x i)).bind fun t => J k x i t) else none) else J k x i false)
    (hJ : ∀ k x i t, J (k + 1) x i t = if t = true then L k x (wrap64 (i + 1)) else some i)
    {a : ByteArray} (ha : small a) : ∀ l : List Int, l <:+ bs a → Ev (fun k => L k a (pos a l)) (pos a (l.dropWhile q))
  | [], h => by
    refine Ev.step (hL · a _) ?_
    refine Pv.neg (by rw [pos_nil]; omega) ?_
    refine Ev.step (hJ · a _ _) ?_
    exact Pv.neg (by decide) (Ev.now _)
  | c :: l, h => by
    refine Ev.step (hL · a _) ?_
    refine Pv.pos (pos_lt a c l) (Pv.pos (pos_ge h) ?_)
    rw [bt_pos h, hq]
    refine Pv.some_bind (f := fun k t => J k a (pos a (c :: l)) t) ?_
    refine Ev.step (hJ · a _ _) ?_
    rw [List.dropWhile_cons]
    by_cases hc : q c = true
    · rw [if_pos hc]
      refine Pv.pos hc ?_
      rw [w1 ha h]
      exact run L J g q hq hL hJ ha l (tail h)
    · rw [if_neg hc]
      exact Pv.neg hc (Ev.now _)
theorem run_blank {a : ByteArray} (ha : small a) {l : List Int} (h : l <:+ bs a) : Ev (fun k => lexer_while_at_lexer_blank.f k a (pos a l)) (pos a (l.dropWhile blankB)) :=
  run lexer_while_at_lexer_blank.l0 lexer_while_at_lexer_blank.j1 lexer_blank.f blankB blank_eq (fun k x i => by simp only [lexer_while_at_lexer_blank.l0]) (fun k x i t => by simp only [lexer_while_at_lexer_blank.j1]) ha l h
theorem run_line {a : ByteArray} (ha : small a) {l : List Int} (h : l <:+ bs a) : Ev (fun k => lexer_while_at_lexer_skip_1.f k a (pos a l)) (pos a (l.dropWhile (fun c => c != 10))) :=
  run lexer_while_at_lexer_skip_1.l0 lexer_while_at_lexer_skip_1.j1 lexer_skip_1.f (fun c => c != 10) (fun c => rfl) (fun k x i => by simp only [lexer_while_at_lexer_skip_1.l0]) (fun k x i t => by simp only [lexer_while_at_lexer_skip_1.j1]) ha l h
theorem run_inside {a : ByteArray} (ha : small a) {l : List Int} (h : l <:+ bs a) : Ev (fun k => lexer_while_at_lexer_inside.f k a (pos a l)) (pos a (l.dropWhile innerB)) :=
  run lexer_while_at_lexer_inside.l0 lexer_while_at_lexer_inside.j1 lexer_inside.f innerB inside_eq (fun k x i => by simp only [lexer_while_at_lexer_inside.l0]) (fun k x i t => by simp only [lexer_while_at_lexer_inside.j1]) ha l h
theorem run_digit {a : ByteArray} (ha : small a) {l : List Int} (h : l <:+ bs a) : Ev (fun k => lexer_while_at_lexer_digit.f k a (pos a l)) (pos a (l.dropWhile digitB)) :=
  run lexer_while_at_lexer_digit.l0 lexer_while_at_lexer_digit.j1 lexer_digit.f digitB digit_eq (fun k x i => by simp only [lexer_while_at_lexer_digit.l0]) (fun k x i t => by simp only [lexer_while_at_lexer_digit.j1]) ha l h
theorem skipS_line : ∀ l : List Int, skipS true l = skipS false (l.dropWhile (fun c => c != 10))
  | [] => by rw [List.dropWhile_nil]; unfold skipS; rfl
  | c :: l => by
    rw [List.dropWhile_cons]
    by_cases h : c = 10
    · subst h; simp [skipS, blankB]
    · rw [if_pos (by simpa using h)]
      conv => lhs; unfold skipS
      rw [if_neg h, skipS_line l]
theorem skipS_blanks : ∀ l : List Int, skipS false l = skipS false (l.dropWhile blankB)
  | [] => rfl
  | c :: l => by
    rw [List.dropWhile_cons]
    by_cases h : blankB c = true
    · rw [if_pos h]
      conv => lhs; unfold skipS
      rw [if_pos h, skipS_blanks l]
    · rw [if_neg h]
theorem dw_head {q : Int → Bool} : ∀ {l m : List Int} {c : Int}, l.dropWhile q = c :: m → q c = false
  | [], m, c, h => by simp at h
  | d :: l, m, c, h => by
    rw [List.dropWhile_cons] at h
    by_cases hd : q d = true
    · rw [if_pos hd] at h; exact dw_head h
    · rw [if_neg hd] at h
      injection h with h _
      subst h; simpa using hd
theorem dw_le {q : Int → Bool} (l : List Int) : (l.dropWhile q).length ≤ l.length := (List.dropWhile_suffix q).length_le
theorem skip_ev {a : ByteArray} (ha : small a) (n : Nat) : ∀ l : List Int, l.length ≤ n → l <:+ bs a → Ev (fun k => lexer_skip.l0 k a (pos a l)) (pos a (skipS false l)) := by
  induction n with
  | zero =>
    intro l hn h
    obtain rfl := List.length_eq_zero_iff.mp (Nat.le_zero.mp hn)
    refine Ev.step (fun k => by simp only [lexer_skip.l0]; rfl) ?_
    refine Ev.bind (run_blank ha h) ?_
    refine Pv.pos (by rw [List.dropWhile_nil, pos_nil]) ?_
    refine Ev.step (fun k => by simp only [lexer_skip.j1]; rfl) ?_
    exact Pv.pos (by trivial) (Ev.now _)
  | succ n ih =>
    intro l hn h
    refine Ev.step (fun k => by simp only [lexer_skip.l0]; rfl) ?_
    refine Ev.bind (run_blank ha h) ?_
    rw [skipS_blanks l]
    have hs : l.dropWhile blankB <:+ bs a := (List.dropWhile_suffix blankB).trans h
    have hl := dw_le (q := blankB) l
    cases hm : l.dropWhile blankB with
    | nil =>
      refine Pv.pos (by rw [pos_nil]) ?_
      refine Ev.step (fun k => by simp only [lexer_skip.j1]; rfl) ?_
      exact Pv.pos (by trivial) (Ev.now _)
    | cons c m =>
      rw [hm] at hs hl
      have hb := dw_head hm
      have hlt := pos_lt a c m
      refine Pv.neg (by omega) (Pv.pos (pos_ge hs) (Pv.pos hlt ?_))
      rw [bt_pos hs]
      refine Ev.step (fun k => by simp only [lexer_skip.j1]; rfl) ?_
      by_cases hc : c = 35
      · subst hc
        refine Pv.neg (by decide) ?_
        refine Ev.bind (run_line ha hs) ?_
        have e1 : (35 :: m).dropWhile (fun c : Int => c != 10) = m.dropWhile (fun c => c != 10) := by rw [List.dropWhile_cons]; rfl
        have e2 : skipS false (35 :: m) = skipS false (m.dropWhile (fun c => c != 10)) := by
          rw [← skipS_line]; conv => lhs; unfold skipS
          rw [if_neg (by decide), if_pos rfl]
        rw [e1, e2]
        refine ih _ ?_ ((List.dropWhile_suffix _).trans (tail hs))
        have := dw_le (q := fun c : Int => c != 10) m
        rw [List.length_cons] at hl
        omega
      · refine Pv.pos (by simpa using hc) ?_
        refine Pv.as (Ev.now _) ?_
        conv => rhs; unfold skipS
        rw [if_neg (by simp [hb]), if_neg hc]
theorem skip_f {a : ByteArray} (ha : small a) {l : List Int} (h : l <:+ bs a) : Ev (fun k => lexer_skip.f k a (pos a l)) (pos a (skipS false l)) := skip_ev ha _ l (Nat.le_refl _) h
theorem rblanks_ev {a : ByteArray} (ha : small a) : ∀ l : List Int, l <:+ bs a → Ev (fun k => selfstabref04_blanks.l0 k a (pos a l)) (pos a (skipS false l)) ∧ Ev (fun k => selfstabref04_blanks.l1 k a (pos a l)) (pos a (skipS true l))
  | [], h => by
    have e0 : Ev (fun k => selfstabref04_blanks.l0 k a (pos a [])) (pos a []) := by
      refine Ev.step (fun k => by simp only [selfstabref04_blanks.l0]; rfl) ?_
      exact Pv.neg (by rw [pos_nil]; omega) (Ev.now _)
    refine ⟨e0, ?_⟩
    refine Ev.step (fun k => by simp only [selfstabref04_blanks.l1]; rfl) ?_
    refine Pv.neg (by rw [pos_nil]; omega) ?_
    refine Ev.step (fun k => by simp only [selfstabref04_blanks.j3]; rfl) ?_
    exact Pv.neg (by decide) e0
  | c :: l, h => by
    obtain ⟨i0, i1⟩ := rblanks_ev ha l (tail h)
    have one : ∀ b : Bool, Ev (fun k => selfstabref04_blanks.l0 k a (pos a (c :: l))) (pos a (skipS false (c :: l))) → Ev (fun k => selfstabref04_blanks.l1 k a (pos a (c :: l))) (pos a (skipS true (c :: l))) := by
      intro _ z
      refine Ev.step (fun k => by simp only [selfstabref04_blanks.l1]; rfl) ?_
      refine Pv.pos (pos_lt a c l) (Pv.pos (pos_ge h) ?_)
      rw [bt_pos h]
      refine Ev.step (fun k => by simp only [selfstabref04_blanks.j3]; rfl) ?_
      by_cases hc : c = 10
      · refine Pv.neg (by simp [hc]) (Pv.as z ?_)
        subst hc; simp [skipS, blankB]
      · refine Pv.pos (by simpa using hc) ?_
        rw [w1 ha h]
        refine Pv.as i1 ?_
        conv => rhs; unfold skipS
        rw [if_neg hc]
    have z : Ev (fun k => selfstabref04_blanks.l0 k a (pos a (c :: l))) (pos a (skipS false (c :: l))) := by
      have j : ∀ b : Bool, b = blankB c → Ev (fun k => selfstabref04_blanks.j1 k a (pos a (c :: l)) c b) (pos a (skipS false (c :: l))) := by
        intro b hb
        refine Ev.step (fun k => by simp only [selfstabref04_blanks.j1]; rfl) ?_
        by_cases h1 : b = true
        · refine Pv.pos h1 ?_
          rw [w1 ha h]
          refine Pv.as i0 ?_
          conv => rhs; unfold skipS
          rw [if_pos (by rw [← hb]; exact h1)]
        · refine Pv.neg h1 ?_
          have h2 : ¬ blankB c = true := by rw [← hb]; exact h1
          by_cases hc : c = 35
          · refine Pv.pos hc ?_
            refine Ev.step (fun k => by simp only [selfstabref04_blanks.l1]; rfl) ?_
            refine Pv.pos (pos_lt a c l) (Pv.pos (pos_ge h) ?_)
            rw [bt_pos h]
            refine Ev.step (fun k => by simp only [selfstabref04_blanks.j3]; rfl) ?_
            refine Pv.pos (by simp [hc]) ?_
            rw [w1 ha h]
            refine Pv.as i1 ?_
            conv => rhs; unfold skipS
            rw [if_neg h2, if_pos hc]
          · refine Pv.neg hc (Pv.as (Ev.now _) ?_)
            conv => rhs; unfold skipS
            rw [if_neg h2, if_neg hc]
      refine Ev.step (fun k => by simp only [selfstabref04_blanks.l0]; rfl) ?_
      refine Pv.pos (pos_lt a c l) (Pv.pos (pos_ge h) ?_)
      rw [bt_pos h]
      by_cases h1 : c = 32
      · exact Pv.pos h1 (j _ (by simp [blankB, h1]))
      refine Pv.neg h1 ?_
      by_cases h2 : c = 9
      · exact Pv.pos h2 (j _ (by simp [blankB, h2]))
      refine Pv.neg h2 ?_
      by_cases h3 : c = 10
      · exact Pv.pos h3 (j _ (by simp [blankB, h3]))
      exact Pv.neg h3 (j _ (by simp only [blankB, beqf h1, beqf h2, beqf h3, Bool.false_or]))
    exact ⟨z, one true z⟩
theorem rblanks_f {a : ByteArray} (ha : small a) {l : List Int} (h : l <:+ bs a) : Ev (fun k => selfstabref04_blanks.f k a (pos a l)) (pos a (skipS false l)) := (rblanks_ev ha l h).1
end Go.Proofs.Ytanickojbgceaaa.Fn04
