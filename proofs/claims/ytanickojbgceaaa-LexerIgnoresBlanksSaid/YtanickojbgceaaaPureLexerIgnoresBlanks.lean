/- The law LexerIgnoresBlanks, out of its printed text: tokens with blanks and comments of any kind between them are the same tokens. -/
import Derived.Test.YtanickojbgceaaaP13
import Derived.Test.YtanickojbgceaaaFn04f
namespace Go.Proofs.Ytanickojbgceaaa.Math04
/-- What stands between tokens: it ends each token, and is skipped. -/
def Sep (s : List Int) : Prop := (∃ d y, s = d :: y ∧ sepB d = true) ∧ ∀ m, skipS false (s ++ m) = skipS false m
def body (t : Tk) : List Int := t.2.1.take t.2.2.1
def Ok (t : Tk) : Prop := (tok t.2.1).2.2.2 = 0 ∧ t = ((tok t.2.1).1, t.2.1, (tok t.2.1).2.1, (tok t.2.1).2.2.1)
def glue (s : Nat → List Int) : List Tk → Nat → List Int
  | [], _ => []
  | t :: ts, i => body t ++ (s i ++ glue s ts (i + 1))
def toks (s : Nat → List Int) : List Tk → Nat → List Tk
  | [], _ => []
  | t :: ts, i => (t.1, glue s (t :: ts) i, t.2.2.1, t.2.2.2) :: toks s ts (i + 1)
theorem Ok.len {t : Tk} (h : Ok t) : t.2.2.1 = (tok t.2.1).2.1 := by
  have := congrArg (fun q : Tk => q.2.2.1) h.2
  exact this
theorem Ok.body_len {t : Tk} (h : Ok t) : (body t).length = t.2.2.1 ∧ 1 ≤ t.2.2.1 := by
  have hl := tok_len h.1
  unfold body
  rw [List.length_take, h.len]; omega
theorem Ok.skip {t : Tk} (h : Ok t) (x : List Int) : skipS false (body t ++ x) = body t ++ x := by
  have h1 := (Lx.alone h.1).1
  have hb := h.body_len
  unfold body at hb ⊢
  rw [h.len] at hb ⊢
  have hne : skipS false (t.2.1.take (tok t.2.1).2.1) ≠ [] := by rw [h1]; intro e; rw [e] at hb; simp at hb; omega
  rw [skip_more false _ x hne, h1]
theorem glue_skip {s : Nat → List Int} : ∀ {ts : List Tk} {i : Nat}, (∀ t ∈ ts, Ok t) → skipS false (glue s ts i) = glue s ts i
  | [], _, _ => rfl
  | t :: ts, i, h => (h t (by simp)).skip _
theorem glue_lx {s : Nat → List Int} (hs : ∀ i, Sep (s i)) : ∀ {ts : List Tk} {i : Nat}, (∀ t ∈ ts, Ok t) → Lx (glue s ts i) (toks s ts i) none
  | [], _, _ => .nil
  | t :: ts, i, h => by
    have ht := h t (by simp)
    have hb := ht.body_len
    obtain ⟨⟨d, y, hd, hsep⟩, hsk⟩ := hs i
    have hbne : body t ≠ [] := by intro e; rw [e] at hb; simp at hb; omega
    have e1 : tok (glue s (t :: ts) i) = tok t.2.1 := by
      show tok (body t ++ (s i ++ glue s ts (i + 1))) = _
      rw [hd, List.cons_append, tok_app hbne hsep]
      unfold body
      rw [ht.len]
      exact tok_self ht.1
    have e2 : (glue s (t :: ts) i).drop (tok (glue s (t :: ts) i)).2.1 = s i ++ glue s ts (i + 1) := by
      rw [e1, ← ht.len, ← hb.1]
      exact List.drop_left
    have z := Lx.cons (r := glue s (t :: ts) i) (ts := toks s ts (i + 1)) (e := none) (by
      show body t ++ (s i ++ glue s ts (i + 1)) ≠ []
      intro e
      exact hbne (List.append_eq_nil_iff.mp e).1) (by rw [e1]; exact ht.1) (by
      rw [e2, hsk, glue_skip (fun u hu => h u (by simp [hu]))]
      exact glue_lx hs (fun u hu => h u (by simp [hu])))
    rw [e1] at z
    have e3 : ((tok t.2.1).1, glue s (t :: ts) i, (tok t.2.1).2.1, (tok t.2.1).2.2.1) = (t.1, glue s (t :: ts) i, t.2.2.1, t.2.2.2) := by
      have a1 := congrArg (fun q : Tk => q.1) ht.2
      have a2 := congrArg (fun q : Tk => q.2.2.2) ht.2
      simp only at a1 a2
      rw [← a1, ← a2, ← ht.len]
    rw [e3] at z
    exact z
theorem toks_len (s : Nat → List Int) : ∀ (ts : List Tk) (i : Nat), (toks s ts i).length = ts.length
  | [], _ => rfl
  | t :: ts, i => by show _ + 1 = _ + 1; rw [toks_len s ts (i + 1)]
theorem toks_get (s : Nat → List Int) : ∀ (ts : List Tk) (i j : Nat) (t : Tk), ts[j]? = some t → (toks s ts i)[j]? = some (t.1, glue s (ts.drop j) (i + j), t.2.2.1, t.2.2.2)
  | [], _, _, _, h => by simp at h
  | u :: ts, i, 0, t, h => by
    simp only [List.getElem?_cons_zero, Option.some.injEq] at h
    subst h
    rfl
  | u :: ts, i, j + 1, t, h => by
    rw [List.getElem?_cons_succ] at h
    have := toks_get s ts (i + 1) j t h
    show (toks s ts (i + 1))[j]? = _
    rw [this, List.drop_succ_cons, show i + 1 + j = i + (j + 1) by omega]
def lens : List Tk → Nat
  | [] => 0
  | t :: ts => t.2.2.1 + lens ts
theorem glue_len {s : Nat → List Int} (hs : ∀ i, (s i).length ≤ 10) : ∀ {ts : List Tk} {i : Nat}, (∀ t ∈ ts, Ok t) → (glue s ts i).length ≤ lens ts + 10 * ts.length
  | [], _, _ => Nat.le_refl _
  | t :: ts, i, h => by
    have ht := (h t (by simp)).body_len
    have ih := glue_len hs (ts := ts) (i := i + 1) (fun u hu => h u (by simp [hu]))
    have := hs i
    show (body t ++ (s i ++ glue s ts (i + 1))).length ≤ t.2.2.1 + lens ts + 10 * (ts.length + 1)
    rw [List.length_append, List.length_append]; omega
theorem Lx.lens_le {r : List Int} {ts : List Tk} {o : Option (List Int × Int)} (h : Lx r ts o) : lens ts ≤ r.length := by
  induction h with
  | nil => exact Nat.le_refl _
  | err _ _ => exact Nat.zero_le _
  | @cons r ts o h1 h2 h3 ih =>
    have hl := tok_len h2
    have h4 := skipS_le false (r.drop (tok r).2.1)
    rw [List.length_drop] at h4
    show (tok r).2.1 + lens ts ≤ _
    omega
theorem Lx.lex_ok {r : List Int} {ts : List Tk} {o : Option (List Int × Int)} (h : Lx r ts o) : o = none → ∀ f n, r.length < f → ts.length + n ≤ 4096 → lex f r n = (ts, [], 0) := by
  induction h with
  | nil =>
    intro _ f n hf _
    cases f with
    | zero => exact absurd hf (Nat.not_lt_zero _)
    | succ f => unfold lex; rw [if_pos rfl]
  | err h1 h2 => intro h; cases h
  | @cons r ts o h1 h2 h3 ih =>
    intro ho f n hf hn
    have hl := next_lt h2
    rw [List.length_cons] at hn
    cases f with
    | zero => exact absurd hf (Nat.not_lt_zero _)
    | succ f =>
      unfold lex
      rw [if_neg h1, if_neg (by omega), if_neg (by simpa using h2), ih ho f (n + 1) (by omega) (by omega)]
      rw [if_neg (by simp)]
theorem glue_suffix (s : Nat → List Int) : ∀ (ts : List Tk) (i j : Nat), glue s (ts.drop j) (i + j) <:+ glue s ts i
  | [], i, j => by simp [glue]
  | t :: ts, i, 0 => List.suffix_refl _
  | t :: ts, i, j + 1 => by
    rw [List.drop_succ_cons, show i + (j + 1) = i + 1 + j by omega]
    refine (glue_suffix s ts (i + 1) j).trans ?_
    show _ <:+ body t ++ (s i ++ glue s ts (i + 1))
    rw [← List.append_assoc]
    exact List.suffix_append _ _
theorem glue_drop (s : Nat → List Int) {ts : List Tk} {j : Nat} {t : Tk} (h : ts[j]? = some t) (i : Nat) : glue s (ts.drop j) i = body t ++ (s i ++ glue s (ts.drop (j + 1)) (i + 1)) := by
  obtain ⟨hlt, ht⟩ := List.getElem?_eq_some_iff.mp h
  rw [List.drop_eq_getElem_cons hlt, ht]; rfl
end Go.Proofs.Ytanickojbgceaaa.Math04
namespace Go.Proofs.Ytanickojbgceaaa.Fn04
open Go.RowKit Go.Proofs.Ytanickojbgceaaa.P Go.Proofs.YtanickojbgceaaaW.PrintWords Go.Proofs.YtanickojbgceaaaW.PrintLast Go.Proofs.YtanickojbgceaaaW.PrintMore Go.Proofs.Ytanickojbgceaaa.Math04 Go.Proofs.Ytanickojbgceaaa.Bs
set_option linter.unusedVariables false
set_option linter.unusedSimpArgs false
set_option linter.unusedSectionVars false
theorem blank_ok (l : List Int) (i : Nat) : ∃ b : ByteArray, selfstablaw04_blank.f l (i : Int) = some b ∧ Sep (bs b) ∧ b.size ≤ 10 := by
  have d1 : Sep (bs ⟨#[32]⟩) := ⟨⟨32, [], rfl, by decide⟩, fun m => by show skipS false (32 :: m) = _; simp [skipS, blankB]⟩
  have d2 : Sep (bs ⟨#[10]⟩) := ⟨⟨10, [], rfl, by decide⟩, fun m => by show skipS false (10 :: m) = _; simp [skipS, blankB]⟩
  have d3 : Sep (bs ⟨#[9, 32, 13]⟩) := ⟨⟨9, [32, 13], rfl, by decide⟩, fun m => by show skipS false (9 :: 32 :: 13 :: m) = _; simp [skipS, blankB]⟩
  have d4 : Sep (bs ⟨#[35, 32, 97, 32, 58, 61, 32, 98, 59, 10]⟩) := ⟨⟨35, [32, 97, 32, 58, 61, 32, 98, 59, 10], rfl, by decide⟩, fun m => by show skipS false (35 :: 32 :: 97 :: 32 :: 58 :: 61 :: 32 :: 98 :: 59 :: 10 :: m) = _; simp [skipS, blankB]⟩
  have d5 : Sep (bs ⟨#[32, 35, 10, 35, 10, 32]⟩) := ⟨⟨32, [35, 10, 35, 10, 32], rfl, by decide⟩, fun m => by show skipS false (32 :: 35 :: 10 :: 35 :: 10 :: 32 :: m) = _; simp [skipS, blankB]⟩
  have d6 : Sep (bs ⟨#[32, 32]⟩) := ⟨⟨32, [32], rfl, by decide⟩, fun m => by show skipS false (32 :: 32 :: m) = _; simp [skipS, blankB]⟩
  unfold selfstablaw04_blank.f
  by_cases h : (i : Int) ≥ (l.length : Int)
  · rw [if_pos h]; exact ⟨_, rfl, d1, by decide⟩
  · rw [if_neg h, if_pos (by omega), if_pos (by omega)]
    split
    · exact ⟨_, rfl, d2, by decide⟩
    · split
      · exact ⟨_, rfl, d3, by decide⟩
      · split
        · exact ⟨_, rfl, d4, by decide⟩
        · split
          · exact ⟨_, rfl, d5, by decide⟩
          · exact ⟨_, rfl, d6, by decide⟩

section
variable {a : ByteArray} (h2 : a.size ≤ 1000) (ways : List Int) (B : Nat → ByteArray) (hB : ∀ i : Nat, selfstablaw04_blank.f ways (i : Int) = some (B i)) (hsep : ∀ i, Sep (bs (B i))) (h10 : ∀ i, (B i).size ≤ 10)
variable (all : List Tk) (hal : all.length ≤ 1000) (hall : ∀ t ∈ all, t.2.1 <:+ bs a ∧ Ok t) (hsum : lens all ≤ 1000)
include h2 hsep h10 hal hall hsum

theorem check_l (O : ByteArray) (hO : bs O = glue (fun i => bs (B i)) all 0) (hOs : O.size ≤ 11000) (n : Nat) : ∀ (i : Nat), i + n = all.length →
    Ev (fun k => selfstablaw04_LexerIgnoresBlanks.l1 k a (all.map (mk a)) O ((toks (fun i => bs (B i)) all 0).map (mk O)) (i : Int)) true := by
  have hml : ((all.map (mk a)).length : Int) = all.length := by rw [List.length_map]
  have hml2 : (((toks (fun i => bs (B i)) all 0).map (mk O)).length : Int) = all.length := by rw [List.length_map, toks_len]
  induction n with
  | zero =>
    intro i hi
    refine Ev.step (fun k => by simp only [selfstablaw04_LexerIgnoresBlanks.l1]; rfl) ?_
    rw [hml2]
    exact Pv.neg (by omega) (Ev.bind awake (Ev.now _))
  | succ n ih =>
    intro i hi
    have hlt : i < all.length := by omega
    obtain ⟨t, ht⟩ : ∃ t, all[i]? = some t := ⟨_, List.getElem?_eq_getElem hlt⟩
    obtain ⟨hs, hok⟩ := hall t (List.mem_of_getElem? ht)
    have hrd := rd_map (a := a) ht
    have hg2 := toks_get (fun i => bs (B i)) all 0 i t ht
    have hrd2 := rd_map (a := O) hg2
    rw [Nat.zero_add] at hrd2
    have hG := glue_drop (fun i => bs (B i)) ht i
    have hGs : glue (fun i => bs (B i)) (all.drop i) i <:+ bs O := by
      rw [hO]; have := glue_suffix (fun i => bs (B i)) all 0 i; rwa [Nat.zero_add] at this
    generalize hGe : glue (fun i => bs (B i)) (all.drop i) i = G at *
    have hb := hok.body_len
    have hGl : t.2.2.1 ≤ G.length := by rw [hG, List.length_append]; omega
    have htl : t.2.2.1 ≤ t.2.1.length := by rw [hok.len]; exact (tok_len hok.1).2
    have p1 := pos_ge hs
    have p2 := pos_ge hGs
    have q1 : pos a t.2.1 + t.2.2.1 ≤ a.size := by rw [drop_pos htl]; exact pos_le a _
    have q2 : pos O G + t.2.2.1 ≤ O.size := by rw [drop_pos hGl]; exact pos_le O _
    have x1 : bs (a.extract (pos a t.2.1).toNat (pos a t.2.1 + t.2.2.1).toNat) = body t := part hs htl
    have x2 : bs (O.extract (pos O G).toNat (pos O G + t.2.2.1).toNat) = body t := by
      rw [part hGs hGl, hG, ← hb.1]; exact List.take_left
    have x3 := bs_inj (x2.trans x1.symm)
    refine Ev.step (fun k => by simp only [selfstablaw04_LexerIgnoresBlanks.l1]; rfl) ?_
    rw [hml, hml2, hrd, hrd2]
    show Ev (fun k => if (i : Int) < (all.length : Int) then (if 0 ≤ (i : Int) then (if (i : Int) < (all.length : Int) then (if t.1 = t.1 then (if t.2.2.2 = t.2.2.2 then (if pos O G < 0 then _ else (if pos O G + (t.2.2.1 : Int) > (O.size : Int) then _ else (if pos O G + (t.2.2.1 : Int) < pos O G then _ else (if 0 ≤ pos O G then (if pos O G ≤ pos O G + (t.2.2.1 : Int) then (if pos O G + (t.2.2.1 : Int) ≤ (O.size : Int) then (if 0 ≤ pos a t.2.1 then (if pos a t.2.1 ≤ pos a t.2.1 + (t.2.2.1 : Int) then (if pos a t.2.1 + (t.2.2.1 : Int) ≤ (a.size : Int) then (selfstablaw04_LexerIgnoresBlanks.j4 k a _ O _ (i : Int) ((O.extract (pos O G).toNat (pos O G + (t.2.2.1 : Int)).toNat).toList != (a.extract (pos a t.2.1).toNat (pos a t.2.1 + (t.2.2.1 : Int)).toNat).toList)) else _) else _) else _) else _) else _) else _)))) else _) else _) else _) else _) else _) true
    refine Pv.pos (by omega) (Pv.pos (by omega) (Pv.pos (by omega) (Pv.pos rfl (Pv.pos rfl (Pv.neg (by omega) (Pv.neg (by omega) (Pv.neg (by omega) (Pv.pos p2 (Pv.pos (by omega) (Pv.pos q2 (Pv.pos p1 (Pv.pos (by omega) (Pv.pos q1 ?_)))))))))))))
    rw [x3, bne_self_eq_false]
    refine Ev.step (fun k => by simp only [selfstablaw04_LexerIgnoresBlanks.j4]; rfl) (Pv.neg (by decide) ?_)
    rw [Pv.w64 (by omega) (by omega)]
    exact ih (i + 1) (by omega)
include hB in
theorem build_l (n : Nat) : ∀ (i : Nat) (x : ByteArray), i + n = all.length → bs x ++ glue (fun i => bs (B i)) (all.drop i) i = glue (fun i => bs (B i)) all 0 →
    Ev (fun k => selfstablaw04_LexerIgnoresBlanks.l0 k a ways (all.map (mk a)) x (i : Int)) true := by
  have hml : ((all.map (mk a)).length : Int) = all.length := by rw [List.length_map]
  have hgl := glue_len (s := fun i => bs (B i)) (fun i => by rw [bs_len]; exact h10 i) (ts := all) (i := 0) (fun t ht => (hall t ht).2)
  induction n with
  | zero =>
    intro i x hi hx
    rw [List.drop_of_length_le (by omega), show glue (fun i => bs (B i)) [] i = [] from rfl, List.append_nil] at hx
    have hsz : x.size ≤ 11000 := by rw [← bs_len, hx]; omega
    refine Ev.step (fun k => by simp only [selfstablaw04_LexerIgnoresBlanks.l0]; rfl) ?_
    rw [hml]
    refine Pv.neg (by omega) ?_
    have hlx := glue_lx hsep (ts := all) (i := 0) (fun t ht => (hall t ht).2)
    have hsc : scanR x = ((toks (fun i => bs (B i)) all 0).map (mk x), 0, 0) := by
      unfold scanR
      rw [if_neg (by omega), hx, glue_skip (fun t ht => (hall t ht).2), hlx.lex_ok rfl _ 0 (by rw [← hx, bs_len]; omega) (by rw [toks_len]; omega)]
      unfold res
      simp
    have z := lscan x
    rw [hsc] at z
    refine Ev.bind z (Pv.pos rfl ?_)
    have e : ((((toks (fun i => bs (B i)) all 0).map (mk x)).length : Int) != (all.length : Int)) = false := by
      rw [List.length_map, toks_len, bne_self_eq_false]
    show Ev (fun k => selfstablaw04_LexerIgnoresBlanks.j2 k a (all.map (mk a)) x ((toks (fun i => bs (B i)) all 0).map (mk x)) ((((toks (fun i => bs (B i)) all 0).map (mk x)).length : Int) != (all.length : Int))) true
    rw [e]
    refine Ev.step (fun k => by simp only [selfstablaw04_LexerIgnoresBlanks.j2]; rfl) (Pv.neg (by decide) ?_)
    exact check_l h2 B hsep h10 all hal hall hsum x hx hsz all.length 0 (by omega)
  | succ n ih =>
    intro i x hi hx
    have hlt : i < all.length := by omega
    obtain ⟨t, ht⟩ : ∃ t, all[i]? = some t := ⟨_, List.getElem?_eq_getElem hlt⟩
    obtain ⟨hs, hok⟩ := hall t (List.mem_of_getElem? ht)
    have hrd := rd_map (a := a) ht
    have hG := glue_drop (fun i => bs (B i)) ht i
    have htl : t.2.2.1 ≤ t.2.1.length := by rw [hok.len]; exact (tok_len hok.1).2
    have p1 := pos_ge hs
    have q1 : pos a t.2.1 + t.2.2.1 ≤ a.size := by rw [drop_pos htl]; exact pos_le a _
    have x1 : bs (a.extract (pos a t.2.1).toNat (pos a t.2.1 + t.2.2.1).toNat) = body t := part hs htl
    have xs1 : (a.extract (pos a t.2.1).toNat (pos a t.2.1 + t.2.2.1).toNat).size = t.2.2.1 := part_size hs htl
    have hxl : x.size ≤ 11000 := by
      have := congrArg List.length hx
      rw [List.length_append, bs_len] at this; omega
    have := h10 i
    refine Ev.step (fun k => by simp only [selfstablaw04_LexerIgnoresBlanks.l0]; rfl) ?_
    rw [hml, hrd]
    refine Pv.pos (by omega) (Pv.pos (by omega) (Pv.pos p1 (Pv.pos (show pos a t.2.1 ≤ pos a t.2.1 + (t.2.2.1 : Int) by omega) (Pv.pos q1 (Pv.const_bind (hB i) (Pv.pos ?_ (Pv.pos ?_ ?_)))))))
    · show (a.extract (pos a t.2.1).toNat (pos a t.2.1 + t.2.2.1).toNat).size + (B i).size ≤ _
      rw [xs1]; omega
    · show x.size + ((a.extract (pos a t.2.1).toNat (pos a t.2.1 + t.2.2.1).toNat) ++ B i).size ≤ _
      rw [ByteArray.size_append, xs1]; omega
    · rw [Pv.w64 (by omega) (by omega)]
      refine ih (i + 1) _ (by omega) ?_
      show bs (x ++ ((a.extract (pos a t.2.1).toNat (pos a t.2.1 + t.2.2.1).toNat) ++ B i)) ++ _ = _
      rw [bs_append, bs_append, x1, ← hx, hG]
      simp [List.append_assoc]
end
end Go.Proofs.Ytanickojbgceaaa.Fn04
namespace Go.Proofs.Ytanickojbgceaaa.Pure
open Go.RowKit Go.Proofs.Ytanickojbgceaaa.P Go.Proofs.YtanickojbgceaaaW.PrintWords Go.Proofs.YtanickojbgceaaaW.PrintLast Go.Proofs.YtanickojbgceaaaW.PrintMore Go.Proofs.Ytanickojbgceaaa.Math04 Go.Proofs.Ytanickojbgceaaa.Bs

theorem LexerIgnoresBlanks : ∀ (a0 : ByteArray) (l1 : List Int), a0.size ≤ maxLen → (l1.length ≤ maxLen ∧ ∀ y0 ∈ l1, (Lit.int .u8 y0).wf = true) → ∃ k, selfstablaw04_LexerIgnoresBlanks.f k a0 l1 = some true := by
  intro a0 l1 _ _
  refine Ev.rounds (g := fun k => selfstablaw04_LexerIgnoresBlanks.f k a0 l1) ?_
  unfold selfstablaw04_LexerIgnoresBlanks.f
  have idle : Ev (fun k => selfstablaw04_LexerIgnoresBlanks.j0 k a0 l1 true) true :=
    Ev.step (fun k => by simp only [selfstablaw04_LexerIgnoresBlanks.j0]; rfl) (Pv.pos (by trivial) (Ev.bind Fn04.awake (Ev.now _)))
  rcases Fn04.fair a0 with h | ⟨h2, h, ts, hx, hs⟩
  · exact Ev.bind h (Pv.neg (by decide) idle)
  · refine Ev.bind h (Pv.pos (by trivial) ?_)
    by_cases hb : (a0.size : Int) > 1000
    · rw [decide_eq_true hb]; exact idle
    · rw [decide_eq_false hb]
      have z := Fn04.rscan a0
      rw [hs] at z
      refine Ev.step (fun k => by simp only [selfstablaw04_LexerIgnoresBlanks.j0]; rfl) (Pv.neg (by decide) (Ev.bind z ?_))
      have hl := hx.len
      have hl3 := hx.lens_le
      have hl2 := skipS_le false (bs a0)
      rw [bs_len] at hl2
      have hB : ∀ i : Nat, ∃ b : ByteArray, selfstablaw04_blank.f l1 (i : Int) = some b ∧ Sep (bs b) ∧ b.size ≤ 10 := Fn04.blank_ok l1
      refine Fn04.build_l (by omega) l1 (fun i => (hB i).choose) (fun i => (hB i).choose_spec.1) (fun i => (hB i).choose_spec.2.1) (fun i => (hB i).choose_spec.2.2) ts (by omega) (fun t ht => ?_) (by omega) ts.length 0 _ (by omega) ?_
      · obtain ⟨m1, m2, m3⟩ := hx.mem t ht
        exact ⟨m1.trans (Fn04.skip_all a0), m2, m3⟩
      · simp [bs]

end Go.Proofs.Ytanickojbgceaaa.Pure
