/- TermRenamesBack: for every list of terms and every list of numbers the law answers true: renaming with a permutation of the variables and then with its inverse returns the expression, and the variables that are read are renamed. -/
import Derived.Test.YtbjigmgiecgolaaFn05d
namespace Go.Proofs.Ytbjigmgiecgolaa.Pure
set_option linter.unusedVariables false
open Go.RowKit Go.Proofs.Ytbjigmgiecgolaa.P Go.Proofs.YtbjigmgiecgolaaW.PrintWords Go.Proofs.YtbjigmgiecgolaaW.PrintLast Go.Proofs.YtbjigmgiecgolaaW.PrintMore Go.Proofs.Ytbjigmgiecgolaa.Fn05 Go.Proofs.Ytbjigmgiecgolaa.Math05

theorem awake05f : Ev (fun k => selfstablaw05_awake.f k) true := Ev.of selfstablaw05_awake.mono (k := 40) (by decide +kernel)

def sw (i t a : Nat) : Nat := if a = t then i else if a = i then t else a
theorem swap_rd {m : List Int} (hl : m.length = 6) {i t : Nat} (hi : i < 6) (ht : t < 6) (a : Nat) :
    rd ((m.set i (rd m (t : Int))).set t (rd m (i : Int))) (a : Int) = rd m (sw i t a : Nat) := by
  rw [rd_set _ _ _ _ (by rw [List.length_set]; omega), rd_set _ _ _ _ (by omega)]
  unfold sw
  split
  · rfl
  · split <;> rfl
theorem sw_lt {i t a : Nat} (hi : i < 6) (ht : t < 6) (ha : a < 6) : sw i t a < 6 := by unfold sw; split; exact hi; split; exact ht; exact ha
theorem sw_inj {i t a b : Nat} (h : sw i t a = sw i t b) : a = b := by unfold sw at h; split at h <;> split at h <;> (try split at h) <;> (try split at h) <;> omega
theorem swap_six {m : List Int} (h : Six m) (hj : Inj m) {i t : Nat} (hi : i < 6) (ht : t < 6) :
    Six ((m.set i (rd m (t : Int))).set t (rd m (i : Int))) ∧ Inj ((m.set i (rd m (t : Int))).set t (rd m (i : Int))) := by
  refine ⟨⟨by rw [List.length_set, List.length_set]; exact h.1, fun a ha => ?_⟩, fun a b ha hb he => ?_⟩
  · rw [swap_rd h.1 hi ht]; exact h.2 _ (sw_lt hi ht ha)
  · rw [swap_rd h.1 hi ht, swap_rd h.1 hi ht] at he
    exact sw_inj (hj _ _ (sw_lt hi ht ha) (sw_lt hi ht hb) he)

theorem perm_l0 (l : List Int) (hl : l.length ≤ maxLen) (hw : ∀ y ∈ l, (Lit.int .i64 y).wf = true) : ∀ (n i : Nat) (m : List Int), i + n = 6 → Six m → Inj m → ∃ m', Six m' ∧ Inj m' ∧ Ev (fun k => selfstablaw05_permutation.l0 k l m (i : Int)) m' := by
  intro n
  induction n with
  | zero =>
    intro i m hi h6 hj
    refine ⟨m, h6, hj, Ev.step (fun k => by simp only [selfstablaw05_permutation.l0]; rfl) ?_⟩
    by_cases h : (i : Int) < (l.length : Int)
    · exact Pv.pos h (Pv.neg (by have := h6.1; omega) (Ev.now _))
    · exact Pv.neg h (Ev.now _)
  | succ n ih =>
    intro i m hi h6 hj
    by_cases h : (i : Int) < (l.length : Int)
    · have hlt : i < l.length := by omega
      have hr := Pv.wf64 (hw _ (List.getElem_mem hlt))
      have e0 : rd l (i : Int) = l[i] := by unfold rd; rw [Int.toNat_natCast, List.getD_eq_getElem?_getD, List.getElem?_eq_getElem hlt]; rfl
      obtain ⟨r, hm, hr0, hr1⟩ := modS (rd l (i : Int)) (m.length : Int) (by omega) (by omega) (by have := h6.1; omega) (by have := h6.1; omega)
      obtain ⟨t, rfl⟩ := Int.eq_ofNat_of_zero_le hr0
      have ht : t < 6 := by have := h6.1; omega
      obtain ⟨a, b⟩ := swap_six h6 hj (show i < 6 by omega) ht
      obtain ⟨m', h1, h2, h3⟩ := ih (i + 1) _ (by omega) a b
      refine ⟨m', h1, h2, Ev.step (fun k => by simp only [selfstablaw05_permutation.l0]; rfl) ?_⟩
      have e1 : wrap64 ((i : Int) + 1) = ((i + 1 : Nat) : Int) := by unfold maxLen at hl; rw [Pv.w64 (by omega) (by omega)]; omega
      refine Pv.pos h (Pv.pos (by have := h6.1; omega) (Pv.pos (by omega) (Pv.const_bind hm (Pv.pos hr0 (Pv.pos hr1 ?_)))))
      rw [e1]
      exact h3
    · exact ⟨m, h6, hj, Ev.step (fun k => by simp only [selfstablaw05_permutation.l0]; rfl) (Pv.neg h (Ev.now _))⟩
theorem six0 : Six [0, 1, 2, 3, 4, 5] ∧ Inj [0, 1, 2, 3, 4, 5] := by
  have key : ∀ i : Fin 6, rd [0, 1, 2, 3, 4, 5] ((i.val : Nat) : Int) = ((i.val : Nat) : Int) := by decide
  refine ⟨⟨rfl, fun i hi => ?_⟩, fun i j hi hj h => ?_⟩
  · have := key ⟨i, hi⟩
    simp only at this
    rw [this]; omega
  · have a := key ⟨i, hi⟩
    have b := key ⟨j, hj⟩
    simp only at a b
    rw [a, b] at h; omega

/-- The inverse. -/
theorem back_l0 (l : List S31) (m : List Int) (h6 : Six m) (hj : Inj m) {r : Bool}
    (hc : ∀ b, Six b → (∀ i : Nat, i < 6 → rd b (rd m (i : Int)) = (i : Int)) → Ev (fun k => (term_Rename.f k l m).bind fun bt360 => ((term_Rename.f k bt360.1 b).bind fun bt364 => ((term_Reads.f k l).bind fun bt368 => ((term_Reads.f k bt360.1).bind fun bt370 => (selfstablaw05_TermRenamesBack.l1 k l m bt360.1 bt360.2 bt364.1 bt364.2 bt368.1 bt368.2 bt370.1 bt370.2 0))))) r) :
    ∀ (n i : Nat) (b : List Int), i + n = 6 → Six b → (∀ j : Nat, j < i → rd b (rd m (j : Int)) = (j : Int)) → Ev (fun k => selfstablaw05_TermRenamesBack.l0 k l m b (i : Int)) r := by
  intro n
  induction n with
  | zero =>
    intro i b hi hb hinv
    refine Ev.step (fun k => by simp only [selfstablaw05_TermRenamesBack.l0]; rfl) (Pv.neg (by have := h6.1; omega) ?_)
    exact hc b hb (fun j hj => hinv j (by omega))
  | succ n ih =>
    intro i b hi hb hinv
    have hmi := h6.2 i (by omega)
    obtain ⟨q, hq⟩ := Int.eq_ofNat_of_zero_le hmi.1
    have e1 : wrap64 ((i : Int) + 1) = ((i + 1 : Nat) : Int) := by rw [Pv.w64 (by omega) (by omega)]; omega
    refine Ev.step (fun k => by simp only [selfstablaw05_TermRenamesBack.l0]; rfl) (Pv.pos (by have := h6.1; omega) (Pv.pos (by omega) (Pv.pos hmi.1 (Pv.pos (by have := hb.1; omega) ?_))))
    rw [e1, hq, Int.toNat_natCast]
    refine ih (i + 1) _ (by omega) ⟨by rw [List.length_set]; exact hb.1, fun a ha => ?_⟩ (fun j hj' => ?_)
    · rw [rd_set _ _ _ _ (by have := hb.1; omega)]
      split
      · omega
      · exact hb.2 a ha
    · have hmj := h6.2 j (by omega)
      obtain ⟨p, hp⟩ := Int.eq_ofNat_of_zero_le hmj.1
      rw [hp, rd_set _ _ _ _ (by have := hb.1; omega)]
      by_cases hpq : p = q
      · rw [if_pos hpq]
        have := hj i j (by omega) (by omega) (by rw [hq, hp, hpq])
        omega
      · rw [if_neg hpq, ← hp]
        refine hinv j ?_
        have : j ≠ i := fun e => hpq (by subst e; omega)
        omega
theorem same_self (l : List S31) (hl : l.length ≤ 10000) : Ev (fun k => selfstabref05_Same.f k l l) true := by
  have loop : ∀ (n i : Nat), i + n = l.length → Ev (fun k => selfstabref05_Same.l0 k l l (i : Int)) true := by
    intro n
    induction n with
    | zero =>
      intro i hi
      exact Ev.step (fun k => by simp only [selfstabref05_Same.l0]; rfl) (Pv.neg (by omega) (Ev.now _))
    | succ n ih =>
      intro i hi
      have e1 : wrap64 ((i : Int) + 1) = ((i + 1 : Nat) : Int) := by rw [Pv.w64 (by omega) (by omega)]; omega
      refine Ev.step (fun k => by simp only [selfstabref05_Same.l0]; rfl) (Pv.pos (by omega) (Pv.pos (by omega) (Pv.pos (by omega) (Pv.neg (by simp) ?_))))
      rw [e1]
      exact ih (i + 1) (by omega)
  exact Pv.pos rfl (loop l.length 0 (by omega))

theorem last_l1 (l x y : List S31) (m : List Int) (h6 : Six m) (hj : Inj m) (hv : ∀ t ∈ l, argS 6 t = true) (hvx : ∀ t ∈ x, argS 6 t = true) (hx : x = l.map (ren m)) (hy : y = l) (hl : l.length ≤ 10000) : ∀ (n i : Nat), i + n = 6 →
    Ev (fun k => selfstablaw05_TermRenamesBack.l1 k l m x 0 y 0 ((readV 5 l : Nat) : Int) ((readV 12 l : Nat) : Int) ((readV 5 x : Nat) : Int) ((readV 12 x : Nat) : Int) (i : Int)) true := by
  intro n
  induction n with
  | zero =>
    intro i hi
    refine Ev.step (fun k => by simp only [selfstablaw05_TermRenamesBack.l1]; rfl) (Pv.neg (by have := h6.1; omega) (Ev.bind awake05f (Pv.pos rfl (Pv.pos trivial (Pv.pos trivial ?_)))))
    subst hy
    refine Ev.bind (same_self _ hl) (Pv.pos rfl (Pv.as (Ev.now _) ?_))
    rw [hx, List.length_map]
    exact beq_self_eq_true _
  | succ n ih =>
    intro i hi
    have hmi := h6.2 i (by omega)
    obtain ⟨q, hq⟩ := Int.eq_ofNat_of_zero_le hmi.1
    have e1 : wrap64 ((i : Int) + 1) = ((i + 1 : Nat) : Int) := by rw [Pv.w64 (by omega) (by omega)]; omega
    have w1 : IntKind.u64.wrap (i : Int) = (i : Int) := by show (i : Int) % 18446744073709551616 = i; omega
    have w2 : IntKind.u64.wrap (q : Int) = (q : Int) := by show (q : Int) % 18446744073709551616 = q; omega
    refine Ev.step (fun k => by simp only [selfstablaw05_TermRenamesBack.l1]; rfl) (Pv.pos (by have := h6.1; omega) ?_)
    rw [hq]
    have b1 := bits_get ⟨readV 5 l, readV_lt (.inl rfl) hv⟩ ⟨i, by omega⟩
    have b2 := bits_get ⟨readV 12 l, readV_lt (.inr rfl) hv⟩ ⟨i, by omega⟩
    have b3 := bits_get ⟨readV 5 x, readV_lt (.inl rfl) hvx⟩ ⟨q, by omega⟩
    have b4 := bits_get ⟨readV 12 x, readV_lt (.inr rfl) hvx⟩ ⟨q, by omega⟩
    simp only at b1 b2 b3 b4
    have c1 := read_ren h6 hj (o := 5) (.inl rfl) hv (i := i) (j := q) (by omega) hq
    have c2 := read_ren h6 hj (o := 12) (.inr rfl) hv (i := i) (j := q) (by omega) hq
    rw [← hx] at c1 c2
    rw [c1] at b3
    rw [c2] at b4
    refine Pv.pos (by rw [w1]; omega) (Pv.pos (by omega) (Pv.pos (by rw [w2]; omega) (Pv.pos (by rw [b1, b3]) (Pv.pos (by rw [b2, b4]) ?_))))
    rw [e1]
    exact ih (i + 1) (by omega)

theorem TermRenamesBack : ∀ (l0 : List (S31)) (l1 : List Int), (l0.length ≤ maxLen ∧ ∀ y0 ∈ l0, ((Lit.int .i64 y0.f0).wf = true ∧ (Lit.int .i64 y0.f1).wf = true)) → (l1.length ≤ maxLen ∧ ∀ y0 ∈ l1, (Lit.int .i64 y0).wf = true) → ∃ k, selfstablaw05_TermRenamesBack.f k l0 l1 = some true := by
  intro l raw _ hraw
  refine Ev.rounds ?_
  have idle : Ev (fun k => selfstablaw05_TermRenamesBack.j0 k l raw true) true :=
    Ev.step (fun k => by simp only [selfstablaw05_TermRenamesBack.j0]; rfl) (Pv.pos (by trivial) (Ev.bind awake05f (Ev.now _)))
  refine Pv.const_bind (x := decide ((l.length : Int) ≤ 250)) rfl ?_
  by_cases h : (l.length : Int) ≤ 250
  · rw [decide_eq_true h]
    refine Pv.pos rfl (Ev.bind (rvalid l 6) ?_)
    by_cases hv : validS l 6 = true
    · rw [hv]
      obtain ⟨v1, hx, v3, v4, v5⟩ := (validS_iff l 6).1 hv
      refine Ev.step (fun k => by simp only [selfstablaw05_TermRenamesBack.j0]; rfl) (Pv.neg (by decide) ?_)
      obtain ⟨m, h6, hj, hm⟩ := perm_l0 raw hraw.1 hraw.2 6 0 [0, 1, 2, 3, 4, 5] (by omega) six0.1 six0.2
      refine Ev.bind hm ?_
      refine Pv.pos (by omega) (Pv.pos (by rw [h6.1]; decide) ?_)
      have hz : Six (List.replicate (((m.length : Nat) : Int)).toNat 0) := by
        rw [h6.1]
        refine ⟨rfl, fun i hi => ?_⟩
        have key : ∀ i : Fin 6, rd (List.replicate (((6 : Nat) : Int)).toNat 0) ((i.val : Nat) : Int) = 0 := by decide
        have := key ⟨i, hi⟩
        simp only at this
        rw [this]; omega
      refine back_l0 l m h6 hj ?_ 6 0 _ (by omega) hz (fun j hj => by omega)
      intro b hb hinv
      have hvx := valid_ren h6 hv
      refine Ev.bind (trename l m h6 hv) (Ev.bind (trename _ b hb hvx) (Ev.bind (treads l hv) (Ev.bind (treads _ hvx) ?_)))
      have hy : (l.map (ren m)).map (ren b) = l := by
        rw [List.map_map]
        conv => rhs; rw [← List.map_id l]
        exact List.map_congr_left (fun t ht => ren_back hinv (v5 t ht))
      exact last_l1 l _ _ m h6 hj v5 ((validS_iff _ 6).1 hvx).2.2.2.2 rfl hy (by omega) 6 0 (by omega)
    · rw [Bool.eq_false_iff.2 hv]; exact idle
  · rw [decide_eq_false h]; exact Pv.neg (by decide) idle
end Go.Proofs.Ytbjigmgiecgolaa.Pure
