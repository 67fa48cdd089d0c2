/- Part of the proof of the law LexerLeavesBlanks: PureLexerLeavesBlanks. -/
import Derived.Test.YtanickojbgceaaaLexerLeavesBlanksP10
import Derived.Test.YtanickojbgceaaaLexerLeavesBlanksFn04f
namespace Go.Proofs.Ytanickojbgceaaa.Fn04
open Go.RowKit Go.Proofs.Ytanickojbgceaaa.P Go.Proofs.YtanickojbgceaaaW.PrintWords Go.Proofs.YtanickojbgceaaaW.PrintLast Go.Proofs.YtanickojbgceaaaW.PrintMore Go.Proofs.Ytanickojbgceaaa.Math04 Go.Proofs.Ytanickojbgceaaa.Bs
set_option linter.unusedVariables false
set_option linter.unusedSimpArgs false
theorem value_l {s : ByteArray} (hs : s.size ≤ 10) : ∀ (l : List Int) (n : Int) (m : Nat), l <:+ bs s → 0 ≤ n → n < ((10 ^ m : Nat) : Int) → m + l.length ≤ 10 → (∀ c ∈ l, digitB c = true) →
  Ev (fun k => selfstablaw04_value.l0 k s n (pos s l)) (l.foldl (fun v c => 10 * v + (c - 48)) n)
 | [], n, m, h, h0, h1, h2, hd => by
  refine Ev.step (fun k => by simp only [selfstablaw04_value.l0]; rfl) ?_
  exact Pv.neg (by rw [pos_nil]; omega) (Ev.now _)
 | c :: l, n, m, h, h0, h1, h2, hd => by
  have hc := hd c (List.mem_cons_self)
  simp only [digitB, Bool.and_eq_true, decide_eq_true_eq] at hc
  have hlt := pos_lt s c l
  refine Ev.step (fun k => by simp only [selfstablaw04_value.l0]; rfl) ?_
  refine Pv.pos (pos_lt s c l) (Pv.pos (pos_ge h) ?_)
  rw [bt_pos h]
  refine Pv.neg (by omega) (Pv.neg (by omega) ?_)
  rw [decide_eq_false (by omega)]
  refine Ev.step (fun k => by simp only [selfstablaw04_value.j1]; rfl) ?_
  refine Pv.neg (by decide) (Pv.pos (pos_ge h) (Pv.pos (pos_lt s c l) ?_))
  rw [bt_pos h, w1 (by unfold small; omega) h]
  rw [List.length_cons] at h2
  have h3 : (10 : Nat) ^ m ≤ 10 ^ 10 := Nat.pow_le_pow_right (by omega) (by omega)
  have h4 : ((10 ^ m : Nat) : Int) ≤ ((10 ^ 10 : Nat) : Int) := Int.ofNat_le.mpr h3
  have h5 : ((10 ^ 10 : Nat) : Int) = 10000000000 := by decide
  have e1 : wrap64 (10 * n) = 10 * n := Pv.w64 (by omega) (by omega)
  have e2 : (c - 48) % 256 = c - 48 := by omega
  have e3 : wrap64 (10 * n + (c - 48)) = 10 * n + (c - 48) := Pv.w64 (by omega) (by omega)
  rw [e1, e2, e3, List.foldl_cons]
  refine value_l hs l _ (m + 1) (tail h) (by omega) ?_ (by omega) (fun x hx => hd x (List.mem_cons_of_mem _ hx))
  rw [Nat.pow_succ, Int.natCast_mul]
  omega
theorem value_ev {s : ByteArray} (hs : s.size ≤ 10) (hd : ∀ c ∈ bs s, digitB c = true) : Ev (fun k => selfstablaw04_value.f k s) (numV (bs s)) := by
 have z := value_l hs (bs s) 0 0 (List.suffix_refl _) (by omega) (by decide) (by rw [bs_len]; omega) hd
 rw [pos_all] at z
 exact z
theorem num_small {w : List Int} (h : numOK w = true) : w.length ≤ 10 := by
 unfold numOK at h
 simp only [Bool.and_eq_true, decide_eq_true_eq] at h
 exact h.2.1
theorem leaves_l {a : ByteArray} (h2 : a.size ≤ 2000) (all : List Tk) (hal : all.length ≤ 2000) (n : Nat) : ∀ (s : List Int) (ts : List Tk) (i : Nat), ts.length ≤ n → s <:+ bs a → Lx (skipS false s) ts none → i ≤ all.length → all.drop i = ts →
  Ev (fun k => selfstablaw04_LexerLeavesBlanks.l0 k a (all.map (mk a)) (pos a s) (i : Int)) true := by
 have hfit : fits a := by unfold fits; omega
 have hsz : (a.size : Int) ≤ 2000 := by omega
 have go : ∀ (s : List Int) (ts : List Tk) (i : Nat), s <:+ bs a → Lx (skipS false s) ts none → i ≤ all.length → all.drop i = ts → (i : Int) ≤ 2000 → all.length ≤ 2000 →
   (∀ t ts2, ts = t :: ts2 → Ev (fun k => selfstablaw04_LexerLeavesBlanks.l0 k a (all.map (mk a)) (pos a (skipS false s) + (tok (skipS false s)).2.1) ((i : Int) + 1)) true) →
   Ev (fun k => selfstablaw04_LexerLeavesBlanks.l0 k a (all.map (mk a)) (pos a s) (i : Int)) true := by
  intro s ts i hs hx hi hd hi2 hal next;obtain ⟨p, hp⟩ := skipS_suffix false s
  have hs' : skipS false s <:+ bs a := List.IsSuffix.trans ⟨p, hp.symm⟩ hs
  have hg := pos_ge hs
  have hg' := pos_ge hs'
  have hle' := pos_le a (skipS false s)
  have hlen : s.length = p.length + (skipS false s).length := by
   have := congrArg List.length hp
   rwa [List.length_append] at this
  have hpos : pos a (skipS false s) = pos a s + p.length := by unfold pos; omega
  have hml : ((all.map (mk a)).length : Int) = all.length := by rw [List.length_map]
  have hsk : skipS false p = [] := skip_cut0 (b := false) (r := skipS false s) (by rw [← hp])
  have hpart : bs (a.extract (pos a s).toNat (pos a (skipS false s)).toNat) = p := by
   rw [hpos, part hs (by omega)]
   rw [show s.take p.length = (p ++ skipS false s).take p.length by rw [← hp]]
   exact List.take_left
  have hsc : scanR (a.extract (pos a s).toNat (pos a (skipS false s)).toNat) = ([], 0, 0) := by
   have hsize : (a.extract (pos a s).toNat (pos a (skipS false s)).toNat).size ≤ 4096 := by
    rw [← bs_len, hpart]; have := le hs; omega
   exact scan_ok hsize (ts := []) (by rw [hpart, hsk]; exact Lx.nil)
  have j3 : Ev (fun k => selfstablaw04_LexerLeavesBlanks.j3 k a (all.map (mk a)) (i : Int) false) true := by
   refine Ev.step (fun k => by simp only [selfstablaw04_LexerLeavesBlanks.j3]; rfl) ?_
   refine Pv.neg (by decide) ?_
   rw [hml]
   by_cases hil : i = all.length
   ·exact Pv.pos (by omega) (Ev.bind awake (Ev.now _))
   ·have hlt : i < all.length := by omega
    obtain ⟨t, ht⟩ : ∃ t, all[i]? = some t := ⟨_, List.getElem?_eq_getElem hlt⟩
    have hdt : ts = t :: all.drop (i + 1) := by
     rw [← hd, List.drop_eq_getElem_cons hlt]
     rw [List.getElem?_eq_getElem hlt] at ht
     injection ht with ht
     rw [ht]
    rw [hdt] at hx
    have nx := next t _ hdt
    generalize hr : skipS false s = r at *
    cases hx with
    | cons hne hok hrest =>
    have hrd := rd_map (a := a) ht
    rw [hrd]
    have htl := tok_len hok
    have hpl : pos a r + (tok r).2.1 ≤ a.size := by
     have : pos a r + (tok r).2.1 = pos a (r.drop (tok r).2.1) := drop_pos htl.2
     rw [this]; exact pos_le a _
    refine Pv.neg (by omega) (Pv.pos (by omega) (Pv.pos (by omega) (Pv.neg (show ¬ pos a r + (tok r).2.1 ≤ pos a r by omega) (Pv.neg (show ¬ pos a r + (tok r).2.1 > (a.size : Int) by omega) ?_))))
    have j4 : Ev (fun k => selfstablaw04_LexerLeavesBlanks.j4 k a (all.map (mk a)) (i : Int) false) true := by
     refine Ev.step (fun k => by simp only [selfstablaw04_LexerLeavesBlanks.j4]; rfl) ?_
     rw [hrd, hml, Pv.w64 (by omega) (by omega)]
     exact Pv.neg (by decide) (Pv.pos (by omega) (Pv.pos (by omega) nx))
    rcases tok_cases r with hc | ⟨m, hc⟩ | ⟨hc, hk⟩ | ⟨m, hc⟩
    ·exact absurd hok hc
    ·refine Pv.neg (show ¬ (tok r).1 = 2 by rw [hc]; show ¬ (1 : Int) = 2; decide) (Pv.pos (show (tok r).2.2.1 = 0 by rw [hc]) j4)
    ·refine Pv.pos (show (tok r).1 = 2 by rw [hc]) (Pv.pos hg' (Pv.pos (show pos a r ≤ pos a r + (tok r).2.1 by omega) (Pv.pos hpl ?_)))
     have e1 : (tok r).2.1 = (r.takeWhile digitB).length := by rw [hc]
     have e2 : (tok r).2.2.1 = numV (r.takeWhile digitB) := by rw [hc]
     have hb : bs (a.extract (pos a r).toNat (pos a r + (tok r).2.1).toNat) = r.takeWhile digitB := by
      rw [part hs' htl.2, e1, take_tw]
     have hv := value_ev (s := a.extract (pos a r).toNat (pos a r + (tok r).2.1).toNat) (by rw [← bs_len, hb]; exact num_small hk) (by rw [hb]; exact fun x hx => tw_all hx)
     rw [hb, ← e2] at hv
     refine Ev.bind hv ?_
     have hbf : ((tok r).2.2.1 != (tok r).2.2.1) = false := by simp
     show Ev (fun k => selfstablaw04_LexerLeavesBlanks.j4 k a (all.map (mk a)) (i : Int) ((tok r).2.2.1 != (tok r).2.2.1)) true
     rw [hbf]; exact j4
    ·refine Pv.neg (show ¬ (tok r).1 = 2 by rw [hc]; show ¬ (3 : Int) = 2; decide) (Pv.pos (show (tok r).2.2.1 = 0 by rw [hc]) j4)
  have j2 : Ev (fun k => selfstablaw04_LexerLeavesBlanks.j2 k a (all.map (mk a)) (pos a s) (i : Int) (pos a (skipS false s)) false) true := by
   refine Ev.step (fun k => by simp only [selfstablaw04_LexerLeavesBlanks.j2]; rfl) ?_
   refine Pv.neg (by decide) (Pv.pos hg (Pv.pos (by omega) (Pv.pos hle' ?_)))
   have z := lscan (a.extract (pos a s).toNat (pos a (skipS false s)).toNat)
   rw [hsc] at z
   exact Ev.bind z (Pv.pos rfl j3)
  have j1 : Ev (fun k => selfstablaw04_LexerLeavesBlanks.j1 k a (all.map (mk a)) (pos a s) (i : Int) (pos a (skipS false s))) true := by
   refine Ev.step (fun k => by simp only [selfstablaw04_LexerLeavesBlanks.j1]; rfl) ?_
   refine Pv.neg (by omega) ?_
   rw [decide_eq_false (by omega)]
   exact j2
  refine Ev.step (fun k => by simp only [selfstablaw04_LexerLeavesBlanks.l0]; rfl) ?_
  rw [hml]
  refine Pv.pos (by omega) ?_
  by_cases hil : i = all.length
  ·refine Pv.neg (by omega) ?_
   have hts : ts = [] := by rw [← hd, hil, List.drop_length]
   rw [hts] at hx
   have hr : skipS false s = [] := by
    generalize skipS false s = r at hx
    cases hx; rfl
   rw [hr, pos_nil] at j1
   exact j1
  ·have hlt : i < all.length := by omega
   obtain ⟨t, ht⟩ : ∃ t, all[i]? = some t := ⟨_, List.getElem?_eq_getElem hlt⟩
   have hdt : ts = t :: all.drop (i + 1) := by
    rw [← hd, List.drop_eq_getElem_cons hlt]
    rw [List.getElem?_eq_getElem hlt] at ht
    injection ht with ht
    rw [ht]
   rw [hdt] at hx
   have hf : (mk a t).f1 = pos a (skipS false s) := by
    generalize hr : skipS false s = r at *
    cases hx with
    | cons _ _ _ => rfl
   rw [rd_map ht, hf]
   exact Pv.pos (by omega) (Pv.pos (by omega) j1)
 induction n with
 | zero =>
  intro s ts i hn hs hx hi hd;refine go s ts i hs hx hi hd (by omega) hal (fun t ts2 e => ?_)
  rw [e] at hn; exact absurd hn (by simp)
 | succ n ih =>
  intro s ts i hn hs hx hi hd;refine go s ts i hs hx hi hd (by omega) hal (fun t ts2 e => ?_)
  subst e;obtain ⟨p, hp⟩ := skipS_suffix false s
  have hs' : skipS false s <:+ bs a := List.IsSuffix.trans ⟨p, hp.symm⟩ hs
  have hlt : i < all.length := by
   have := congrArg List.length hd
   rw [List.length_drop] at this
   simp at this; omega
  have hd2 : all.drop (i + 1) = ts2 := by
   rw [List.drop_eq_getElem_cons hlt] at hd
   injection hd
  generalize hr : skipS false s = r at *
  cases hx with
  | cons hne hok hrest =>
  rw [drop_pos (tok_len hok).2]
  exact ih _ ts2 (i + 1) (by simp at hn; omega) ((List.drop_suffix _ _).trans hs') hrest (by omega) hd2
end Go.Proofs.Ytanickojbgceaaa.Fn04
namespace Go.Proofs.Ytanickojbgceaaa.Pure
open Go.RowKit Go.Proofs.Ytanickojbgceaaa.P Go.Proofs.YtanickojbgceaaaW.PrintWords Go.Proofs.YtanickojbgceaaaW.PrintLast Go.Proofs.YtanickojbgceaaaW.PrintMore Go.Proofs.Ytanickojbgceaaa.Math04 Go.Proofs.Ytanickojbgceaaa.Bs
theorem LexerLeavesBlanks : ∀ (a0 : ByteArray), a0.size ≤ maxLen → ∃ k, selfstablaw04_LexerLeavesBlanks.f k a0 = some true := by
 intro a0 _;refine Ev.rounds (g := fun k => selfstablaw04_LexerLeavesBlanks.f k a0) ?_
 unfold selfstablaw04_LexerLeavesBlanks.f
 rcases Fn04.fair a0 with h | ⟨h2, h, ts, hx, hs⟩
 ·exact Ev.bind h (Pv.neg (by decide) (Ev.bind Fn04.awake (Ev.now _)))
 ·have z := Fn04.lscan a0
  rw [hs] at z
  refine Ev.bind h (Pv.pos (by trivial) (Ev.bind z (Pv.pos rfl ?_)))
  have hl := hx.len
  have hl2 := skipS_le false (bs a0)
  rw [bs_len] at hl2
  have w := Fn04.leaves_l h2 ts (by omega) _ (bs a0) ts 0 (Nat.le_refl _) (List.suffix_refl _) hx (Nat.zero_le _) rfl
  rw [pos_all] at w
  exact w
end Go.Proofs.Ytanickojbgceaaa.Pure
