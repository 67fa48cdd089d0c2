/- What the lexer's tokens and scans and the reference's answer. -/
import Derived.Test.YtanickojbgceaaaFn04b
namespace Go.Proofs.Ytanickojbgceaaa.Fn04
open Go.RowKit Go.Proofs.Ytanickojbgceaaa.P Go.Proofs.YtanickojbgceaaaW.PrintWords Go.Proofs.YtanickojbgceaaaW.PrintLast Go.Proofs.YtanickojbgceaaaW.PrintMore Go.Proofs.Ytanickojbgceaaa.Math04 Go.Proofs.Ytanickojbgceaaa.Bs
set_option linter.unusedVariables false
set_option linter.unusedSimpArgs false
def fits (a : ByteArray) : Prop := a.size ≤ 20000
theorem fits.small {a : ByteArray} (h : fits a) : small a := by unfold fits at h; unfold Fn04.small; omega
theorem next_ev {a : ByteArray} (ha : fits a) {c : Int} {cs : List Int} (h : c :: cs <:+ bs a) : ∃ q, Ev (fun k => lexer_next.f k a (pos a (c :: cs))) q ∧ nextOk a (c :: cs) q := by
  have hs : (a.size : Int) ≤ 20000 := by unfold fits at ha; omega
  have hsm := ha.small
  have h0 := pos_ge h
  have h1 := pos_lt a c cs
  have hle := le h
  unfold lexer_next.f
  rw [bt_pos h, letter_eq, digit_eq]
  by_cases hl : letterB c = true
  · have ht := tok_word (cs := cs) hl
    have hd := pos_dw a innerB (c :: cs)
    have hw : wrap64 (pos a ((c :: cs).dropWhile innerB) - pos a (c :: cs)) = ((c :: cs).takeWhile innerB).length := by
      have := tw_length innerB (c :: cs)
      rw [hd, Pv.w64 (by omega) (by omega)]; omega
    by_cases h24 : 24 < ((c :: cs).takeWhile innerB).length
    · rw [if_pos h24] at ht
      refine ⟨_, Pv.pos h0 (Pv.pos h1 (Pv.some_bind (f := fun k t => if t = true then _ else _) (Pv.pos hl (Ev.bind (run_inside hsm h) (Pv.pos (by rw [hw]; omega) (Ev.now _)))))), ?_⟩
      unfold nextOk; rw [ht]
      exact ⟨rfl, fun h => absurd h (by decide)⟩
    · rw [if_neg h24] at ht
      refine ⟨_, Pv.pos h0 (Pv.pos h1 (Pv.some_bind (f := fun k t => if t = true then _ else _) (Pv.pos hl (Ev.bind (run_inside hsm h) (Pv.neg (by rw [hw]; omega) (Ev.now _)))))), ?_⟩
      unfold nextOk; rw [ht]
      exact ⟨rfl, fun _ => by rw [hd]⟩
  by_cases hg : digitB c = true
  · have ht := tok_num (cs := cs) hl hg
    have hd := pos_dw a digitB (c :: cs)
    have hlen := tw_length digitB (c :: cs)
    have hp := part h hlen
    have hps := part_size h hlen
    have hne : bs (a.extract (pos a (c :: cs)).toNat (pos a (c :: cs) + ((c :: cs).takeWhile digitB).length).toNat) ≠ [] := by
      rw [hp, take_tw, List.takeWhile_cons, if_pos hg]; simp
    have hal : ∀ x ∈ bs (a.extract (pos a (c :: cs)).toNat (pos a (c :: cs) + ((c :: cs).takeWhile digitB).length).toNat), digitB x = true := by
      rw [hp, take_tw]; exact fun x hx => tw_all hx
    have hn := number_eq (by rw [hps]; omega) hne hal
    rw [hp, take_tw, ← hd] at hn
    have h2 := pos_le a ((c :: cs).dropWhile digitB)
    by_cases hok : numOK ((c :: cs).takeWhile digitB) = true
    · rw [if_pos hok] at ht hn
      refine ⟨_, Pv.pos h0 (Pv.pos h1 (Pv.some_bind (f := fun k t => if t = true then _ else _) (Pv.neg hl (Pv.some_bind (f := fun k t => if t = true then _ else _) (Pv.pos hg (Ev.bind (run_digit hsm h) (Pv.pos (by rw [hd]; omega) (Pv.pos h2 (Pv.const_bind hn (Pv.pos rfl (Ev.now _))))))))))), ?_⟩
      unfold nextOk; rw [ht]
      exact ⟨rfl, fun _ => by rw [hd]⟩
    · rw [if_neg hok] at ht hn
      refine ⟨_, Pv.pos h0 (Pv.pos h1 (Pv.some_bind (f := fun k t => if t = true then _ else _) (Pv.neg hl (Pv.some_bind (f := fun k t => if t = true then _ else _) (Pv.pos hg (Ev.bind (run_digit hsm h) (Pv.pos (by rw [hd]; omega) (Pv.pos h2 (Pv.const_bind hn (Pv.neg (by decide) (Ev.now _))))))))))), ?_⟩
      unfold nextOk; rw [ht]
      exact ⟨rfl, fun h => absurd h (by decide)⟩
  have hw : wrap64 (pos a (c :: cs) + 2) = pos a (c :: cs) + 2 := Pv.w64 (by omega) (by omega)
  rw [hw]
  cases cs with
  | nil =>
    have ht := tok_last hl hg
    obtain ⟨q, hq, hk⟩ := next_j hsm h false 0 (fun h => by cases h) (by rw [ht, if_neg (by decide)])
    refine ⟨q, Pv.pos h0 (Pv.pos h1 (Pv.some_bind (f := fun k t => if t = true then _ else _) (Pv.neg hl (Pv.some_bind (f := fun k t => if t = true then _ else _) (Pv.neg hg (Pv.neg ?_ hq)))))), hk⟩
    unfold pos; simp; omega
  | cons d ds =>
    have ht := tok_two (d := d) (ds := ds) hl hg
    have hp := part h (n := 2) (by simp)
    have hps := part_size h (n := 2) (by simp)
    obtain ⟨x, y, hdat, hcx, hdy⟩ := two_data (s := a.extract (pos a (c :: d :: ds)).toNat (pos a (c :: d :: ds) + 2).toNat) (c := c) (d := d) (by rw [show (2 : Int) = ((2 : Nat) : Int) from rfl, hp]; rfl)
    have hps' : (a.extract (pos a (c :: d :: ds)).toNat (pos a (c :: d :: ds) + 2).toNat).size = 2 := hps
    have hr := rune_eq x y
    rw [← hdat] at hr
    have hle2 : pos a (c :: d :: ds) + 2 ≤ a.size := by unfold pos; simp; omega
    have e1 : strings_ContainsRune.f (a.extract (pos a (c :: d :: ds)).toNat (pos a (c :: d :: ds) + 2).toNat) 32 = some (x == 32 || y == 32) := by
      rw [← hr]; rfl
    have main : ∃ b, (∀ r, Ev (fun k => lexer_next.j0 k (pos a (c :: d :: ds)) c b 0 (pos a (c :: d :: ds)) 0 0) r → Ev (fun k => ((strings_ContainsRune.f (a.extract (pos a (c :: d :: ds)).toNat (pos a (c :: d :: ds) + 2).toNat) 32).bind fun t117 => (if t117 = true then (lexer_next.j0 k (pos a (c :: d :: ds)) c false 0 (pos a (c :: d :: ds)) 0 0) else (if 1 + (a.extract (pos a (c :: d :: ds)).toNat (pos a (c :: d :: ds) + 2).toNat).size ≤ 9223372036854775807 then (if ((⟨#[32]⟩ : ByteArray) ++ (a.extract (pos a (c :: d :: ds)).toNat (pos a (c :: d :: ds) + 2).toNat)).size + 1 ≤ 9223372036854775807 then ((strings_Contains.f (⟨#[32, 46, 46, 32, 45, 62, 32, 58, 61, 32, 38, 38, 32, 124, 124, 32, 61, 61, 32, 33, 61, 32, 60, 61, 32, 62, 61, 32]⟩ : ByteArray) (((⟨#[32]⟩ : ByteArray) ++ (a.extract (pos a (c :: d :: ds)).toNat (pos a (c :: d :: ds) + 2).toNat)) ++ (⟨#[32]⟩ : ByteArray))).bind fun t118 => (lexer_next.j0 k (pos a (c :: d :: ds)) c t118 0 (pos a (c :: d :: ds)) 0 0)) else (none)) else (none))))) r) ∧ (tok (c :: d :: ds) = if b then (3, 2, 0, 0) else sign1 c) := by
      by_cases hx : (x == 32 || y == 32) = true
      · refine ⟨false, fun r hr => Pv.const_bind e1 (Pv.pos hx hr), ?_⟩
        have hno : long2 c d = false := by
          rw [Bool.or_eq_true, beq_iff_eq, beq_iff_eq] at hx
          rcases hx with hx | hx
          · rw [hcx, hx]
            unfold long2
            simp only [List.contains_cons, List.contains_nil]
            rfl
          · rw [hdy, hx]; exact (sep_not (c := 32) (by decide)).2.2.2.2 c
        rw [ht, hno]
      · have hx' := hx
        rw [Bool.or_eq_true, beq_iff_eq, beq_iff_eq, not_or] at hx'
        have e2 : strings_Contains.f (⟨#[32, 46, 46, 32, 45, 62, 32, 58, 61, 32, 38, 38, 32, 124, 124, 32, 61, 61, 32, 33, 61, 32, 60, 61, 32, 62, 61, 32]⟩ : ByteArray) (((⟨#[32]⟩ : ByteArray) ++ (a.extract (pos a (c :: d :: ds)).toNat (pos a (c :: d :: ds) + 2).toNat)) ++ (⟨#[32]⟩ : ByteArray)) = some (long2 c d) := by
          have e3 : (((⟨#[32]⟩ : ByteArray) ++ (a.extract (pos a (c :: d :: ds)).toNat (pos a (c :: d :: ds) + 2).toNat)) ++ (⟨#[32]⟩ : ByteArray)).data.toList = [32, x, y, 32] := by
            rw [ByteArray.data_append, ByteArray.data_append, Array.toList_append, Array.toList_append, hdat]; rfl
          unfold strings_Contains.f
          rw [e3, hcx, hdy, ← two_eq x y hx'.1 hx'.2]
          exact if_pos (by decide)
        refine ⟨long2 c d, fun r hr => Pv.const_bind e1 (Pv.neg hx (Pv.pos (by rw [hps']; decide) (Pv.pos ?_ (Pv.const_bind e2 hr)))), ht⟩
        rw [ByteArray.size_append, hps']; decide
    obtain ⟨b, hb, htb⟩ := main
    obtain ⟨q, hq, hk⟩ := next_j hsm h b 0 (fun _ => by simp) htb
    exact ⟨q, Pv.pos h0 (Pv.pos h1 (Pv.some_bind (f := fun k t => if t = true then _ else _) (Pv.neg hl (Pv.some_bind (f := fun k t => if t = true then _ else _) (Pv.neg hg (Pv.pos hle2 (Pv.pos (by omega) (hb q hq)))))))), hk⟩
def mk (a : ByteArray) (t : Tk) : S32 := ⟨t.1, pos a t.2.1, pos a t.2.1 + t.2.2.1, t.2.2.2⟩
def res (a : ByteArray) (xs : List S32) (q : List Tk × List Int × Int) : List S32 × Int × Int := if q.2.2 ≠ 0 then ([], pos a q.2.1, q.2.2) else (xs ++ q.1.map (mk a), 0, 0)
theorem drop_pos {a : ByteArray} {l : List Int} {n : Nat} (hn : n ≤ l.length) : pos a l + n = pos a (l.drop n) := by unfold pos; rw [List.length_drop]; omega
theorem scan_l {a : ByteArray} (ha : fits a) (F : Nat → ByteArray → List S32 → Int → Option (List S32 × Int × Int))
    (h0 : ∀ xs, Ev (fun k => F k a xs (pos a [])) (xs, 0, 0))
    (h1 : ∀ xs c cs, c :: cs <:+ bs a → xs.length = 4096 → Ev (fun k => F k a xs (pos a (c :: cs))) ([], pos a (c :: cs), 3))
    (h2 : ∀ xs c cs, c :: cs <:+ bs a → xs.length < 4096 → (tok (c :: cs)).2.2.2 ≠ 0 → Ev (fun k => F k a xs (pos a (c :: cs))) ([], pos a (c :: cs), (tok (c :: cs)).2.2.2))
    (h3 : ∀ xs c cs r, c :: cs <:+ bs a → xs.length < 4096 → (tok (c :: cs)).2.2.2 = 0 → Ev (fun k => F k a (xs ++ [mk a ((tok (c :: cs)).1, c :: cs, (tok (c :: cs)).2.1, (tok (c :: cs)).2.2.1)]) (pos a (skipS false ((c :: cs).drop (tok (c :: cs)).2.1)))) r → Ev (fun k => F k a xs (pos a (c :: cs))) r) :
    ∀ (f : Nat) (l : List Int) (xs : List S32), l.length < f → l <:+ bs a → xs.length ≤ 4096 → Ev (fun k => F k a xs (pos a l)) (res a xs (lex f l xs.length))
  | 0, l, xs, hf, _, _ => absurd hf (Nat.not_lt_zero _)
  | f + 1, l, xs, hf, hl, hx => by
    cases l with
    | nil =>
      have e : lex (f + 1) [] xs.length = ([], [], 0) := by unfold lex; rw [if_pos rfl]
      rw [e]
      refine Pv.as (h0 xs) ?_
      unfold res; simp
    | cons c cs =>
      by_cases h4 : xs.length = 4096
      · have e : lex (f + 1) (c :: cs) xs.length = ([], c :: cs, 3) := by unfold lex; rw [if_neg (by simp), if_pos h4]
        rw [e]
        exact h1 xs c cs hl h4
      · by_cases ht : (tok (c :: cs)).2.2.2 = 0
        · have hlt := next_lt ht
          have e : lex (f + 1) (c :: cs) xs.length = if (lex f (skipS false ((c :: cs).drop (tok (c :: cs)).2.1)) (xs.length + 1)).2.2 ≠ 0 then ([], (lex f (skipS false ((c :: cs).drop (tok (c :: cs)).2.1)) (xs.length + 1)).2) else (((tok (c :: cs)).1, c :: cs, (tok (c :: cs)).2.1, (tok (c :: cs)).2.2.1) :: (lex f (skipS false ((c :: cs).drop (tok (c :: cs)).2.1)) (xs.length + 1)).1, [], 0) := by
            conv => lhs; unfold lex
            rw [if_neg (by simp), if_neg h4, if_neg (by simpa using ht)]
          have hsuf : skipS false ((c :: cs).drop (tok (c :: cs)).2.1) <:+ bs a := by
            obtain ⟨p, hp⟩ := skipS_suffix false ((c :: cs).drop (tok (c :: cs)).2.1)
            exact (List.IsSuffix.trans ⟨p, hp.symm⟩ (List.drop_suffix _ _)).trans hl
          have ih := scan_l ha F h0 h1 h2 h3 f _ (xs ++ [mk a ((tok (c :: cs)).1, c :: cs, (tok (c :: cs)).2.1, (tok (c :: cs)).2.2.1)]) (by omega) hsuf (by rw [List.length_append]; simp; omega)
          refine h3 xs c cs _ hl (by omega) ht (Pv.as ih ?_)
          rw [e, List.length_append]
          show res a _ (lex f (skipS false ((c :: cs).drop (tok (c :: cs)).2.1)) (xs.length + 1)) = _
          generalize lex f (skipS false ((c :: cs).drop (tok (c :: cs)).2.1)) (xs.length + 1) = q
          unfold res
          by_cases hz : q.2.2 = 0
          · rw [if_neg (c := q.2.2 ≠ 0) (by simpa using hz), if_neg (c := q.2.2 ≠ 0) (by simpa using hz), if_neg (by simp)]
            simp
          · rw [if_pos (c := q.2.2 ≠ 0) hz, if_pos (c := q.2.2 ≠ 0) hz, if_pos (by simpa using hz)]
        · have e : lex (f + 1) (c :: cs) xs.length = ([], c :: cs, (tok (c :: cs)).2.2.2) := by
            unfold lex; rw [if_neg (by simp), if_neg h4, if_pos ht]
          rw [e]
          refine Pv.as (h2 xs c cs hl (by omega) ht) ?_
          unfold res; rw [if_pos ht]
end Go.Proofs.Ytanickojbgceaaa.Fn04
