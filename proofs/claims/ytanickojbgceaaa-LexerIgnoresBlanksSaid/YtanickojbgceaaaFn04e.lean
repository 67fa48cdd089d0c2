/- The reference's tokens and scan. -/
import Derived.Test.YtanickojbgceaaaFn04d
namespace Go.Proofs.Ytanickojbgceaaa.Fn04
open Go.RowKit Go.Proofs.Ytanickojbgceaaa.P Go.Proofs.YtanickojbgceaaaW.PrintWords Go.Proofs.YtanickojbgceaaaW.PrintLast Go.Proofs.YtanickojbgceaaaW.PrintMore Go.Proofs.Ytanickojbgceaaa.Math04 Go.Proofs.Ytanickojbgceaaa.Bs
set_option linter.unusedVariables false
set_option linter.unusedSimpArgs false
theorem rword_l {a : ByteArray} (ha : fits a) (x1 p q u : Int) (h1 : 0 ≤ x1) (h2 : x1 ≤ 20000) : ∀ l : List Int, l <:+ bs a →
    Ev (fun k => selfstabref04_token.l0 k a x1 p q (pos a l) u) (if pos a (l.dropWhile innerB) - x1 > 24 then (0, 0, 0, 0, 5) else (p, q, pos a (l.dropWhile innerB), u, 0))
  | [], h => by
    have hs : (a.size : Int) ≤ 20000 := by unfold fits at ha; omega
    refine Ev.step (fun k => by simp only [selfstabref04_token.l0]; rfl) ?_
    refine Pv.neg (by rw [pos_nil]; omega) ?_
    refine Ev.step (fun k => by simp only [selfstabref04_token.j1]; rfl) ?_
    refine Pv.neg (by decide) ?_
    have hp := pos_nil a
    rw [List.dropWhile_nil]
    rw [Pv.w64 (by omega) (by omega)]
    by_cases hz : pos a [] - x1 > 24
    · exact Pv.as (Pv.pos hz (Ev.now _)) (if_pos hz).symm
    · exact Pv.as (Pv.neg hz (Ev.now _)) (if_neg hz).symm
  | c :: l, h => by
    have hs : (a.size : Int) ≤ 20000 := by unfold fits at ha; omega
    refine Ev.step (fun k => by simp only [selfstabref04_token.l0]; rfl) ?_
    refine Pv.pos (pos_lt a c l) (Pv.pos (pos_ge h) ?_)
    rw [bt_pos h, rinner_eq]
    refine Pv.some_bind (f := fun k t => selfstabref04_token.j1 k a x1 t p q (pos a (c :: l)) u) ?_
    refine Ev.step (fun k => by simp only [selfstabref04_token.j1]; rfl) ?_
    rw [List.dropWhile_cons]
    by_cases hc : innerB c = true
    · rw [if_pos (c := innerB c = true) hc]
      refine Pv.pos hc ?_
      rw [w1 ha.small h]
      exact rword_l ha x1 p q u h1 h2 l (tail h)
    · rw [if_neg (c := innerB c = true) hc]
      refine Pv.neg hc ?_
      have hp := pos_lt a c l
      have hg := pos_ge h
      rw [Pv.w64 (by omega) (by omega)]
      by_cases hz : pos a (c :: l) - x1 > 24
      · exact Pv.as (Pv.pos hz (Ev.now _)) (if_pos hz).symm
      · exact Pv.as (Pv.neg hz (Ev.now _)) (if_neg hz).symm
theorem rnum_l {a : ByteArray} (ha : fits a) {r : Int × Int × Int × Int × Int} (x1 p q u : Int) : ∀ l : List Int, l <:+ bs a →
    Ev (fun k => selfstabref04_token.j3 k a x1 false p q (pos a (l.dropWhile digitB)) u) r → Ev (fun k => selfstabref04_token.l1 k a x1 p q (pos a l) u) r
  | [], h, z => by
    refine Ev.step (fun k => by simp only [selfstabref04_token.l1]; rfl) ?_
    exact Pv.neg (by rw [pos_nil]; omega) z
  | c :: l, h, z => by
    refine Ev.step (fun k => by simp only [selfstabref04_token.l1]; rfl) ?_
    refine Pv.pos (pos_lt a c l) (Pv.pos (pos_ge h) ?_)
    rw [bt_pos h, rdigit_eq]
    refine Pv.some_bind (f := fun k t => selfstabref04_token.j3 k a x1 t p q (pos a (c :: l)) u) ?_
    rw [List.dropWhile_cons] at z
    by_cases hc : digitB c = true
    · rw [if_pos (c := digitB c = true) hc] at z
      refine Ev.step (fun k => by simp only [selfstabref04_token.j3]; rfl) ?_
      refine Pv.pos hc ?_
      rw [w1 ha.small h]
      exact rnum_l ha x1 p q u l (tail h) z
    · rw [if_neg (c := digitB c = true) hc] at z
      rw [Bool.eq_false_iff.mpr hc]; exact z
theorem rtoken_ev {a : ByteArray} (ha : fits a) {c : Int} {cs : List Int} (h : c :: cs <:+ bs a) : ∃ q, Ev (fun k => selfstabref04_token.f k a (pos a (c :: cs))) q ∧ nextOk a (c :: cs) q := by
  have hs : (a.size : Int) ≤ 20000 := by unfold fits at ha; omega
  have hsm := ha.small
  have h0 := pos_ge h
  have h1 := pos_lt a c cs
  have hle := le h
  unfold selfstabref04_token.f
  rw [bt_pos h, rletter_eq, rdigit_eq, w1 hsm h]
  by_cases hl : letterB c = true
  · have ht := tok_word (cs := cs) hl
    have hin : innerB c = true := by unfold innerB; rw [hl]; rfl
    have hd := pos_dw a innerB (c :: cs)
    have z := rword_l ha (pos a (c :: cs)) 1 (pos a (c :: cs)) 0 h0 (by omega) cs (tail h)
    have e : cs.dropWhile innerB = (c :: cs).dropWhile innerB := by rw [List.dropWhile_cons, if_pos hin]
    rw [e, hd] at z
    by_cases h24 : 24 < ((c :: cs).takeWhile innerB).length
    · rw [if_pos h24] at ht
      rw [if_pos (by omega)] at z
      refine ⟨_, Pv.pos h0 (Pv.pos h1 (Pv.some_bind (f := fun k t => if t = true then _ else _) (Pv.pos hl z))), ?_⟩
      unfold nextOk; rw [ht]
      exact ⟨rfl, fun h => absurd h (by decide)⟩
    · rw [if_neg h24] at ht
      rw [if_neg (by omega)] at z
      refine ⟨_, Pv.pos h0 (Pv.pos h1 (Pv.some_bind (f := fun k t => if t = true then _ else _) (Pv.pos hl z))), ?_⟩
      unfold nextOk; rw [ht]
      exact ⟨rfl, fun _ => rfl⟩
  by_cases hg : digitB c = true
  · have ht := tok_num (cs := cs) hl hg
    have hd := pos_dw a digitB (c :: cs)
    have hlen := tw_length digitB (c :: cs)
    have hp := part h hlen
    have hne : bs (a.extract (pos a (c :: cs)).toNat (pos a (c :: cs) + ((c :: cs).takeWhile digitB).length).toNat) ≠ [] := by
      rw [hp, take_tw, List.takeWhile_cons, if_pos hg]; simp
    have hal : ∀ x ∈ bs (a.extract (pos a (c :: cs)).toNat (pos a (c :: cs) + ((c :: cs).takeWhile digitB).length).toNat), digitB x = true := by
      rw [hp, take_tw]; exact fun x hx => tw_all hx
    obtain ⟨v, hv, hv2⟩ := rnumber_eq hne hal
    rw [hp, take_tw, ← hd] at hv
    rw [hp, take_tw] at hv2
    have h2 := pos_le a ((c :: cs).dropWhile digitB)
    have e : cs.dropWhile digitB = (c :: cs).dropWhile digitB := by rw [List.dropWhile_cons, if_pos hg]
    have fin : ∀ r, Ev (fun k => (if numOK ((c :: cs).takeWhile digitB) = true then (some ((2 : Int), pos a (c :: cs), pos a ((c :: cs).dropWhile digitB), v, (0 : Int))) else (some (0, 0, 0, 0, 2)))) r → Ev (fun k => selfstabref04_token.l1 k a (pos a (c :: cs)) 2 (pos a (c :: cs)) (pos a cs) 0) r := by
      intro r hr
      refine rnum_l ha _ _ _ _ cs (tail h) ?_
      rw [e]
      refine Ev.step (fun k => by simp only [selfstabref04_token.j3]; rfl) ?_
      exact Pv.neg (by decide) (Pv.pos h0 (Pv.pos (by omega) (Pv.pos h2 (Ev.bind hv hr))))
    by_cases hok : numOK ((c :: cs).takeWhile digitB) = true
    · rw [if_pos hok] at ht
      refine ⟨_, Pv.pos h0 (Pv.pos h1 (Pv.some_bind (f := fun k t => if t = true then _ else _) (Pv.neg hl (Pv.some_bind (f := fun k t => if t = true then _ else _) (Pv.pos hg (fin _ (Pv.pos hok (Ev.now _)))))))), ?_⟩
      unfold nextOk; rw [ht]
      exact ⟨rfl, fun _ => by rw [hd, hv2 hok]⟩
    · rw [if_neg hok] at ht
      refine ⟨_, Pv.pos h0 (Pv.pos h1 (Pv.some_bind (f := fun k t => if t = true then _ else _) (Pv.neg hl (Pv.some_bind (f := fun k t => if t = true then _ else _) (Pv.pos hg (fin _ (Pv.neg hok (Ev.now _)))))))), ?_⟩
      unfold nextOk; rw [ht]
      exact ⟨rfl, fun h => absurd h (by decide)⟩
  have hsg := rsign_ev ha h
  have main : ∀ (n : Nat), signV c cs = n → n ≤ 2 → (n = 0 → (tok (c :: cs)).2.2.2 = 4) → (0 < n → tok (c :: cs) = (3, n, 0, 0)) → ∃ q, Ev (fun k => (selfstabref04_sign.f k a (pos a (c :: cs))).bind fun t150 => (if t150 > 0 then ((selfstabref04_sign.f k a (pos a (c :: cs))).bind fun t150 => (some ((3 : Int), pos a (c :: cs), wrap64 (pos a (c :: cs) + t150), (0 : Int), (0 : Int)))) else (some (0, 0, 0, 0, 4)))) q ∧ nextOk a (c :: cs) q := by
    intro n hn hn2 hz hp
    rw [hn] at hsg
    by_cases hn0 : n = 0
    · refine ⟨_, Ev.bind hsg (Pv.neg (by omega) (Ev.now _)), ?_⟩
      unfold nextOk; rw [hz hn0]
      exact ⟨rfl, fun h => absurd h (by decide)⟩
    · have hq := hp (by omega)
      refine ⟨_, Ev.bind hsg (Pv.pos (by omega) (Ev.bind hsg (Ev.now _))), ?_⟩
      unfold nextOk; rw [hq]
      refine ⟨rfl, fun _ => ?_⟩
      rw [Pv.w64 (by omega) (by omega)]
  have one : tok (c :: cs) = sign1 c → signV c cs = (if short1 c then 1 else 0) → ∃ n : Nat, signV c cs = n ∧ n ≤ 2 ∧ (n = 0 → (tok (c :: cs)).2.2.2 = 4) ∧ (0 < n → tok (c :: cs) = (3, n, 0, 0)) := by
    intro ht hv
    unfold sign1 at ht
    by_cases hsh : short1 c = true
    · rw [if_pos hsh] at ht hv
      exact ⟨1, hv, by omega, fun h => absurd h (by decide), fun _ => ht⟩
    · rw [if_neg hsh] at ht hv
      exact ⟨0, hv, by omega, fun _ => by rw [ht], fun h => absurd h (by decide)⟩
  have all : ∃ n : Nat, signV c cs = n ∧ n ≤ 2 ∧ (n = 0 → (tok (c :: cs)).2.2.2 = 4) ∧ (0 < n → tok (c :: cs) = (3, n, 0, 0)) := by
    cases cs with
    | nil => exact one (tok_last hl hg) rfl
    | cons d ds =>
      have ht := tok_two (d := d) (ds := ds) hl hg
      by_cases hb : long2 c d = true
      · rw [if_pos hb] at ht
        exact ⟨2, by unfold signV; show (if long2 c d = true then (2 : Int) else _) = _; rw [if_pos hb]; rfl, by omega, fun h => absurd h (by decide), fun _ => ht⟩
      · rw [if_neg hb] at ht
        exact one ht (by unfold signV; show (if long2 c d = true then (2 : Int) else _) = _; rw [if_neg hb])
  obtain ⟨n, n1, n2, n3, n4⟩ := all
  obtain ⟨q, hq, hk⟩ := main n n1 n2 n3 n4
  exact ⟨q, Pv.pos h0 (Pv.pos h1 (Pv.some_bind (f := fun k t => if t = true then _ else _) (Pv.neg hl (Pv.some_bind (f := fun k t => if t = true then _ else _) (Pv.neg hg hq))))), hk⟩
theorem rscan_l {a : ByteArray} (ha : fits a) (f : Nat) (l : List Int) (xs : List S32) (hf : l.length < f) (hl : l <:+ bs a) (hx : xs.length ≤ 4096) : Ev (fun k => selfstabref04_Scan.l0 k a xs (pos a l)) (res a xs (lex f l xs.length)) := by
  refine scan_l ha selfstabref04_Scan.l0 ?_ ?_ ?_ ?_ f l xs hf hl hx
  · intro xs
    refine Ev.step (fun k => by simp only [selfstabref04_Scan.l0]; rfl) ?_
    exact Pv.neg (by rw [pos_nil]; omega) (Ev.now _)
  · intro xs c cs h h4
    refine Ev.step (fun k => by simp only [selfstabref04_Scan.l0]; rfl) ?_
    exact Pv.pos (pos_lt a c cs) (Pv.pos (by omega) (Ev.now _))
  · intro xs c cs h h4 ht
    obtain ⟨q, hq, hk⟩ := rtoken_ev ha h
    refine Ev.step (fun k => by simp only [selfstabref04_Scan.l0]; rfl) ?_
    refine Pv.pos (pos_lt a c cs) (Pv.neg (by omega) (Ev.bind hq (Pv.neg (by rw [hk.1]; exact ht) (Pv.as (Ev.now _) ?_))))
    rw [hk.1]
  · intro xs c cs r h h4 ht hr
    obtain ⟨q, hq, hk⟩ := rtoken_ev ha h
    have hq2 := hk.2 ht
    subst hq2
    refine Ev.step (fun k => by simp only [selfstabref04_Scan.l0]; rfl) ?_
    refine Pv.pos (pos_lt a c cs) (Pv.neg (by omega) (Ev.bind hq (Pv.pos rfl (Pv.pos (by omega) ?_))))
    show Ev (fun k => (selfstabref04_blanks.f k a (pos a (c :: cs) + (tok (c :: cs)).2.1)).bind fun t => selfstabref04_Scan.l0 k a (xs ++ [mk a ((tok (c :: cs)).1, c :: cs, (tok (c :: cs)).2.1, (tok (c :: cs)).2.2.1)]) t) r
    rw [drop_pos (tok_len ht).2]
    exact Ev.bind (rblanks_f ha.small ((List.drop_suffix _ _).trans h)) hr
theorem rscan (a : ByteArray) : Ev (fun k => selfstabref04_Scan.f k a) (scanR a) := by
  unfold scanR
  by_cases h : a.size > 16384
  · rw [if_pos h]
    exact Pv.pos (show (a.size : Int) > 16384 by omega) (Ev.now _)
  · rw [if_neg h]
    have ha : fits a := by unfold fits; omega
    refine Pv.neg (show ¬ (a.size : Int) > 16384 by omega) ?_
    have z := rblanks_f ha.small (List.suffix_refl (bs a))
    rw [pos_all] at z
    have hl := skipS_le false (bs a)
    rw [bs_len] at hl
    exact Ev.bind z (rscan_l ha _ _ [] (by omega) (skip_all a) (by simp))
theorem rdT {l : List S32} {i : Nat} (h : i < l.length) : rd_T32 l (i : Int) = l[i] := by
  unfold rd_T32; simp [List.getD_eq_getElem?_getD, List.getElem?_eq_getElem h]
theorem same_l (l : List S32) (hl : l.length < 9223372036854775807) (n : Nat) : ∀ i : Nat, l.length - i ≤ n → i ≤ l.length → Ev (fun k => selfstabref04_Same.l0 k l l (i : Int)) true := by
  induction n with
  | zero =>
    intro i hn hi
    refine Ev.step (fun k => by simp only [selfstabref04_Same.l0]; rfl) ?_
    exact Pv.neg (by omega) (Ev.now _)
  | succ n ih =>
    intro i hn hi
    refine Ev.step (fun k => by simp only [selfstabref04_Same.l0]; rfl) ?_
    by_cases h : i < l.length
    · refine Pv.pos (by omega) (Pv.pos (by omega) (Pv.pos (by omega) (Pv.neg (by simp) ?_)))
      rw [Pv.w64 (by omega) (by omega)]
      exact ih (i + 1) (by omega) (by omega)
    · exact Pv.neg (by omega) (Ev.now _)
theorem same_refl (l : List S32) (hl : l.length < 9223372036854775807) : Ev (fun k => selfstabref04_Same.f k l l) true :=
  Pv.pos rfl (same_l l hl _ 0 (Nat.le_refl _) (Nat.zero_le _))
theorem lex_len : ∀ (f : Nat) (l : List Int) (n : Nat), (lex f l n).1.length ≤ l.length
  | 0, l, n => Nat.zero_le _
  | f + 1, l, n => by
    unfold lex
    by_cases h1 : l = []
    · rw [if_pos h1]; exact Nat.zero_le _
    rw [if_neg h1]
    by_cases h2 : n = 4096
    · rw [if_pos h2]; exact Nat.zero_le _
    rw [if_neg h2]
    by_cases h3 : (tok l).2.2.2 = 0
    · rw [if_neg (by simpa using h3)]
      split
      · exact Nat.zero_le _
      · have := lex_len f (skipS false (l.drop (tok l).2.1)) (n + 1)
        have := next_lt h3
        show _ + 1 ≤ _
        omega
    · rw [if_pos h3]; exact Nat.zero_le _
theorem scanR_len (a : ByteArray) : (scanR a).1.length < 9223372036854775807 := by
  unfold scanR
  by_cases h : a.size > 16384
  · rw [if_pos h]; decide
  · rw [if_neg h]
    have h1 := lex_len (a.size + 1) (skipS false (bs a)) 0
    have h2 := skipS_le false (bs a)
    rw [bs_len] at h2
    unfold res
    split
    · simp
    · simp; omega
theorem awake : Ev (fun k => selfstablaw04_awake.f k) true := Ev.of selfstablaw04_awake.mono (k := 200) (by decide +kernel)
end Go.Proofs.Ytanickojbgceaaa.Fn04
