/- Depth, Nest and Valid of term and of its reference, as sentences over Math05. -/
import Derived.Test.YtbjigmgiecgolaaFn05
namespace Go.Proofs.Ytbjigmgiecgolaa.Fn05
open Go.RowKit Go.Proofs.Ytbjigmgiecgolaa.P Go.Proofs.YtbjigmgiecgolaaW.PrintWords Go.Proofs.YtbjigmgiecgolaaW.PrintLast Go.Proofs.YtbjigmgiecgolaaW.PrintMore Go.Proofs.Ytbjigmgiecgolaa.Math05
set_option linter.unusedVariables false
set_option linter.unusedSimpArgs false

theorem rev_last {st : List Int} {a : Int} : (a :: st).reverse.length = st.length + 1 := by simp
theorem wlast (st : List Int) (a : Int) (h : st.length ≤ 100000) : wrap64 (((a :: st).reverse.length : Int) - 1) = st.length := by
  rw [rev_last, Pv.w64 (by omega) (by omega)]; omega
theorem rd_rev (st : List Int) (a : Int) : rd (a :: st).reverse (st.length : Int) = a := by
  unfold rd; simp [List.getD_eq_getElem?_getD]
theorem take_rev (st : List Int) (a : Int) : (a :: st).reverse.take ((st.length : Int)).toNat = st.reverse := by
  simp [List.take_append_of_le_length]

/-- Values that a stack of a list may have. -/
theorem vals_le (of : Int → Int → Int) (hof : ∀ o x, of o x ≤ x + 1) : ∀ (l : List S31), mxl (vals opS of l) ≤ l.length
  | [] => Int.le_refl _
  | t :: ts => by
    have ih := vals_le of hof ts
    show mxl (of (opS t) (mxl ((vals opS of ts).take (ar (opS t)).toNat)) :: (vals opS of ts).drop (ar (opS t)).toNat) ≤ _
    have h1 : mxl (vals opS of ts) = mxl ((vals opS of ts).take (ar (opS t)).toNat ++ (vals opS of ts).drop (ar (opS t)).toNat) := by rw [List.take_append_drop]
    rw [mxl_append] at h1
    have := hof (opS t) (mxl ((vals opS of ts).take (ar (opS t)).toNat))
    rw [mxl_cons, List.length_cons]
    omega
theorem vals_nn (of : Int → Int → Int) (hof : ∀ o x, 0 ≤ x → 0 ≤ of o x) : ∀ (l : List S31) (a : Int), a ∈ vals opS of l → 0 ≤ a
  | t :: ts, a, h => by
    rcases List.mem_cons.1 h with rfl | h
    · exact hof _ _ (mxl_nonneg _)
    · exact vals_nn of hof ts a (List.mem_of_mem_drop h)
theorem ofD_le (o x : Int) : ofD o x ≤ x + 1 := Int.le_refl _
theorem ofN_le (o x : Int) : ofN o x ≤ x + 1 := by rw [ofN_eq]; split <;> omega
theorem ofN_ge (o x : Int) : x ≤ ofN o x := by rw [ofN_eq]; split <;> omega
theorem ofD_ge (o x : Int) : x ≤ ofD o x := by unfold ofD; omega

section
variable (l : List S31) (hl : l.length ≤ 10000)

theorem aggr (a : Int) : selfstabref05_Aggregate.f a = some (agg a) := by
  unfold selfstabref05_Aggregate.f agg
  by_cases h : 20 ≤ a
  · rw [if_pos h, decide_eq_true h]; rfl
  · rw [if_neg h, decide_eq_false h]; rfl
theorem tagg (a : Int) : term_aggregate.f a = some (agg a) := by
  unfold term_aggregate.f agg
  by_cases h : 20 ≤ a
  · rw [if_pos h, decide_eq_true h]; rfl
  · rw [if_neg h, decide_eq_false h]; rfl

include hl in
theorem fold_inner_D {r : Int} {j : Nat} (hj : j < l.length) (n : Nat) (hn : n ≤ 3) : ∀ (m i : Nat) (most : Int) (st : List Int), i + m = n → m ≤ st.length → st.length ≤ 100000 → 0 ≤ most → most ≤ 100000 → (∀ a ∈ st, a ≤ 100000) →
    Ev (fun k => term_fold_at_term_Depth_1.l0 k l ((st.drop m).reverse ++ [ofD (l[j]).f0 (max most (mxl (st.take m)))]) ((j : Int) - 1)) r → Ev (fun k => term_fold_at_term_Depth_1.l1 k l st.reverse (j : Int) most (n : Int) (i : Int)) r := by
  intro m
  induction m with
  | zero =>
    intro i most st hi hm hs h0 h1 hb hc
    refine Ev.step (fun k => by simp only [term_fold_at_term_Depth_1.l1]; rfl) ?_
    refine Pv.neg (by omega) (Pv.pos (by omega) (Pv.pos (by omega) (Pv.const_bind (x := most + 1) ?_ ?_)))
    · show some (wrap64 (most + 1)) = _
      rw [Pv.w64 (by omega) (by omega)]
    · refine Pv.pos (by simp; omega) ?_
      rw [Pv.w64 (x := (j : Int) - 1) (by omega) (by omega)]
      have e : max most (mxl (st.take 0)) = most := by show max most 0 = most; omega
      rw [e] at hc
      exact hc
  | succ m ih =>
    intro i most st hi hm hs h0 h1 hb hc
    obtain ⟨a, st, rfl⟩ : ∃ a s, st = a :: s := by cases st with
      | nil => simp at hm
      | cons a s => exact ⟨a, s, rfl⟩
    simp only [List.length_cons] at hm hs
    have ha : a ≤ 100000 := hb a (by simp)
    refine Ev.step (fun k => by simp only [term_fold_at_term_Depth_1.l1]; rfl) ?_
    rw [wlast st a (by omega), rd_rev, take_rev, rev_last, Pv.mx_eq, Pv.w64 (x := (i : Int) + 1) (by omega) (by omega)]
    refine Pv.pos (by omega) (Pv.pos (by omega) (Pv.pos (by omega) (Pv.pos (by omega) ?_)))
    have := ih (i + 1) (max most a) st (by omega) (by omega) (by omega) (by omega) (by omega) (fun b h => hb b (by simp [h])) (by
      have e : max (max most a) (mxl (st.take m)) = max most (mxl ((a :: st).take (m + 1))) := by
        rw [List.take_succ_cons, mxl_cons]; omega
      rw [e]
      simpa using hc)
    simpa using this
include hl in
theorem fold_outer_D (h1 : Exs opS 1 l) : ∀ (j : Nat), j ≤ l.length → Ev (fun k => term_fold_at_term_Depth_1.l0 k l (vals opS ofD (l.drop j)).reverse ((j : Int) - 1)) (mxl (vals opS ofD l)) := by
  intro j
  induction j with
  | zero =>
    intro _
    refine Ev.step (fun k => by simp only [term_fold_at_term_Depth_1.l0]; rfl) ?_
    obtain ⟨t, ts, rfl⟩ : ∃ t ts, l = t :: ts := by cases l with
      | nil => exact absurd rfl (h1.ne_nil opS)
      | cons t ts => exact ⟨t, ts, rfl⟩
    have h2 := (vals_one opS ofD h1).1
    rw [List.drop_zero, h2]
    have e : mxl [ofD (opS t) (mxl (vals opS ofD ts))] = ofD (opS t) (mxl (vals opS ofD ts)) := by
      have := mxl_nonneg (vals opS ofD ts)
      show max (mxl (vals opS ofD ts) + 1) 0 = mxl (vals opS ofD ts) + 1
      omega
    rw [e]
    exact Pv.neg (by omega) (Pv.pos (by simp) (Ev.now _))
  | succ j ih =>
    intro hj
    have hlt : j < l.length := by omega
    refine Ev.step (fun k => by simp only [term_fold_at_term_Depth_1.l0]; rfl) ?_
    have e0 : ((j + 1 : Nat) : Int) - 1 = (j : Int) := by omega
    rw [e0]
    refine Pv.pos (by omega) (Pv.pos (by omega) (Pv.pos (by omega) ?_))
    rw [rdT hlt]
    obtain ⟨q, hq⟩ := h1.drop opS j hlt
    rw [List.drop_eq_getElem_cons hlt] at hq
    obtain ⟨m, hm, hlen⟩ : ∃ m : Nat, ar (l[j]).f0 = m ∧ m ≤ (vals opS ofD (l.drop (j + 1))).length := by
      generalize he : l.drop (j + 1) = ts at hq
      cases hq with
      | cons _ m n t1 t2 ha ht1 ht2 => exact ⟨m, ha, by rw [(vals_append opS ofD ht1).2, List.length_append, (vals_append opS ofD ht1).1]; omega⟩
    have hr := ar_range (l[j]).f0
    refine Ev.bind (arity _) ?_
    rw [hm]
    have hv : ∀ a ∈ vals opS ofD (l.drop (j + 1)), a ≤ 100000 := fun a ha => by
      have h3 := mxl_mem ha
      have h4 := vals_le ofD ofD_le (l.drop (j + 1))
      rw [List.length_drop] at h4
      omega
    have hsl : (vals opS ofD (l.drop (j + 1))).length ≤ 100000 := by
      have : ∀ f : List S31, (vals opS ofD f).length ≤ f.length := by
        intro f
        induction f with
        | nil => exact Nat.le_refl _
        | cons t ts ih => show (_ :: (vals opS ofD ts).drop _).length ≤ _; simp; omega
      have := this (l.drop (j + 1))
      rw [List.length_drop] at this
      omega
    have key := fold_inner_D l hl hlt m (by omega) m 0 0 (vals opS ofD (l.drop (j + 1))) (by omega) hlen hsl (by omega) (by omega) hv (r := mxl (vals opS ofD l)) (by
      have e : vals opS ofD (l.drop j) = ofD (l[j]).f0 (mxl ((vals opS ofD (l.drop (j + 1))).take m)) :: (vals opS ofD (l.drop (j + 1))).drop m := by
        rw [List.drop_eq_getElem_cons hlt]
        show _ :: _ = _
        rw [show ar (opS l[j]) = (m : Int) from hm, Int.toNat_natCast]
        rfl
      have e2 : max 0 (mxl ((vals opS ofD (l.drop (j + 1))).take m)) = mxl ((vals opS ofD (l.drop (j + 1))).take m) := by
        have := mxl_nonneg ((vals opS ofD (l.drop (j + 1))).take m); omega
      rw [e2]
      have := ih (by omega)
      rw [e, List.reverse_cons] at this
      exact this)
    simpa using key
def dep (l : List S31) : Int := if oneS l then mxl (vals opS ofD l) else 0
def nst (l : List S31) : Int := if oneS l then mxl (vals opS ofN l) else 0
include hl in
theorem tdepth : Ev (fun k => term_Depth.f k l) (dep l) := by
  refine Ev.bind (a := dep l) ?_ (Ev.now _)
  refine Ev.bind (tone l (by omega)) ?_
  unfold dep
  by_cases h : oneS l = true
  · rw [if_pos h]
    refine Pv.pos h ?_
    have := fold_outer_D l hl ((oneS_iff l).1 h) l.length (Nat.le_refl _)
    rw [List.drop_length] at this
    rw [Pv.w64 (by omega) (by omega)]
    exact this
  · rw [if_neg h]
    exact Pv.neg h (Ev.now _)

include hl in
theorem fold_inner_N {r : Int} {j : Nat} (hj : j < l.length) (n : Nat) (hn : n ≤ 3) : ∀ (m i : Nat) (most : Int) (st : List Int), i + m = n → m ≤ st.length → st.length ≤ 100000 → 0 ≤ most → most ≤ 100000 → (∀ a ∈ st, a ≤ 100000) →
    Ev (fun k => term_fold_at_term_Nest_1.l0 k l ((st.drop m).reverse ++ [ofN (l[j]).f0 (max most (mxl (st.take m)))]) ((j : Int) - 1)) r → Ev (fun k => term_fold_at_term_Nest_1.l1 k l st.reverse (j : Int) most (n : Int) (i : Int)) r := by
  intro m
  induction m with
  | zero =>
    intro i most st hi hm hs h0 h1 hb hc
    refine Ev.step (fun k => by simp only [term_fold_at_term_Nest_1.l1]; rfl) ?_
    refine Pv.neg (by omega) (Pv.pos (by omega) (Pv.pos (by omega) (Pv.const_bind (x := ofN (l[j]).f0 most) ?_ ?_)))
    · rw [rdT hj]
      unfold term_Nest_1.f
      rw [tagg, Option.bind_some, ofN_eq]
      split
      · rw [Pv.w64 (by omega) (by omega)]
      · rfl
    · refine Pv.pos (by simp; omega) ?_
      rw [Pv.w64 (x := (j : Int) - 1) (by omega) (by omega)]
      have e : max most (mxl (st.take 0)) = most := by show max most 0 = most; omega
      rw [e] at hc
      exact hc
  | succ m ih =>
    intro i most st hi hm hs h0 h1 hb hc
    obtain ⟨a, st, rfl⟩ : ∃ a s, st = a :: s := by cases st with
      | nil => simp at hm
      | cons a s => exact ⟨a, s, rfl⟩
    simp only [List.length_cons] at hm hs
    have ha : a ≤ 100000 := hb a (by simp)
    refine Ev.step (fun k => by simp only [term_fold_at_term_Nest_1.l1]; rfl) ?_
    rw [wlast st a (by omega), rd_rev, take_rev, rev_last, Pv.mx_eq, Pv.w64 (x := (i : Int) + 1) (by omega) (by omega)]
    refine Pv.pos (by omega) (Pv.pos (by omega) (Pv.pos (by omega) (Pv.pos (by omega) ?_)))
    have := ih (i + 1) (max most a) st (by omega) (by omega) (by omega) (by omega) (by omega) (fun b h => hb b (by simp [h])) (by
      have e : max (max most a) (mxl (st.take m)) = max most (mxl ((a :: st).take (m + 1))) := by
        rw [List.take_succ_cons, mxl_cons]; omega
      rw [e]
      simpa using hc)
    simpa using this
include hl in
theorem fold_outer_N (h1 : Exs opS 1 l) : ∀ (j : Nat), j ≤ l.length → Ev (fun k => term_fold_at_term_Nest_1.l0 k l (vals opS ofN (l.drop j)).reverse ((j : Int) - 1)) (mxl (vals opS ofN l)) := by
  intro j
  induction j with
  | zero =>
    intro _
    refine Ev.step (fun k => by simp only [term_fold_at_term_Nest_1.l0]; rfl) ?_
    obtain ⟨t, ts, rfl⟩ : ∃ t ts, l = t :: ts := by cases l with
      | nil => exact absurd rfl (h1.ne_nil opS)
      | cons t ts => exact ⟨t, ts, rfl⟩
    have h2 := (vals_one opS ofN h1).1
    rw [List.drop_zero, h2]
    have e : mxl [ofN (opS t) (mxl (vals opS ofN ts))] = ofN (opS t) (mxl (vals opS ofN ts)) := by
      have := mxl_nonneg (vals opS ofN ts)
      have := ofN_ge (opS t) (mxl (vals opS ofN ts))
      show max (ofN (opS t) (mxl (vals opS ofN ts))) 0 = _
      omega
    rw [e]
    exact Pv.neg (by omega) (Pv.pos (by simp) (Ev.now _))
  | succ j ih =>
    intro hj
    have hlt : j < l.length := by omega
    refine Ev.step (fun k => by simp only [term_fold_at_term_Nest_1.l0]; rfl) ?_
    have e0 : ((j + 1 : Nat) : Int) - 1 = (j : Int) := by omega
    rw [e0]
    refine Pv.pos (by omega) (Pv.pos (by omega) (Pv.pos (by omega) ?_))
    rw [rdT hlt]
    obtain ⟨q, hq⟩ := h1.drop opS j hlt
    rw [List.drop_eq_getElem_cons hlt] at hq
    obtain ⟨m, hm, hlen⟩ : ∃ m : Nat, ar (l[j]).f0 = m ∧ m ≤ (vals opS ofN (l.drop (j + 1))).length := by
      generalize he : l.drop (j + 1) = ts at hq
      cases hq with
      | cons _ m n t1 t2 ha ht1 ht2 => exact ⟨m, ha, by rw [(vals_append opS ofN ht1).2, List.length_append, (vals_append opS ofN ht1).1]; omega⟩
    have hr := ar_range (l[j]).f0
    refine Ev.bind (arity _) ?_
    rw [hm]
    have hv : ∀ a ∈ vals opS ofN (l.drop (j + 1)), a ≤ 100000 := fun a ha => by
      have h3 := mxl_mem ha
      have h4 := vals_le ofN ofN_le (l.drop (j + 1))
      rw [List.length_drop] at h4
      omega
    have hsl : (vals opS ofN (l.drop (j + 1))).length ≤ 100000 := by
      have : ∀ f : List S31, (vals opS ofN f).length ≤ f.length := by
        intro f
        induction f with
        | nil => exact Nat.le_refl _
        | cons t ts ih => show (_ :: (vals opS ofN ts).drop _).length ≤ _; simp; omega
      have := this (l.drop (j + 1))
      rw [List.length_drop] at this
      omega
    have key := fold_inner_N l hl hlt m (by omega) m 0 0 (vals opS ofN (l.drop (j + 1))) (by omega) hlen hsl (by omega) (by omega) hv (r := mxl (vals opS ofN l)) (by
      have e : vals opS ofN (l.drop j) = ofN (l[j]).f0 (mxl ((vals opS ofN (l.drop (j + 1))).take m)) :: (vals opS ofN (l.drop (j + 1))).drop m := by
        rw [List.drop_eq_getElem_cons hlt]
        show _ :: _ = _
        rw [show ar (opS l[j]) = (m : Int) from hm, Int.toNat_natCast]
        rfl
      have e2 : max 0 (mxl ((vals opS ofN (l.drop (j + 1))).take m)) = mxl ((vals opS ofN (l.drop (j + 1))).take m) := by
        have := mxl_nonneg ((vals opS ofN (l.drop (j + 1))).take m); omega
      rw [e2]
      have := ih (by omega)
      rw [e, List.reverse_cons] at this
      exact this)
    simpa using key
include hl in
theorem tnest : Ev (fun k => term_Nest.f k l) (nst l) := by
  refine Ev.bind (a := nst l) ?_ (Ev.now _)
  refine Ev.bind (tone l (by omega)) ?_
  unfold nst
  by_cases h : oneS l = true
  · rw [if_pos h]
    refine Pv.pos h ?_
    have := fold_outer_N l hl ((oneS_iff l).1 h) l.length (Nat.le_refl _)
    rw [List.drop_length] at this
    rw [Pv.w64 (by omega) (by omega)]
    exact this
  · rw [if_neg h]
    exact Pv.neg h (Ev.now _)
end

/-! The reference's levels: the walk from the left. -/
def lf (L : List (Int × Bool)) : List Int := (L.map (·.1)).reverse
def op_ (L : List (Int × Bool)) : List Bool := (L.map (·.2)).reverse
theorem lf_len (L : List (Int × Bool)) : (lf L).length = L.length := by simp [lf]
theorem op_len (L : List (Int × Bool)) : (op_ L).length = L.length := by simp [op_]
def cntB (l : List Bool) : Int := (l.filter id).length
theorem cntB_op (L : List (Int × Bool)) : cntB (op_ L) = cnt L := by
  unfold cntB op_
  rw [List.filter_reverse, List.length_reverse]
  induction L with
  | nil => rfl
  | cons a L ih =>
    obtain ⟨c, b⟩ := a
    show _ = (if b = true then 1 else 0) + cnt L
    rw [← ih, List.map_cons, List.filter_cons]
    cases b
    · simp
    · simp; omega
theorem rdOf_lt {l : List Bool} {i : Nat} (h : i < l.length) : rdOf false l (i : Int) = l[i] := by
  unfold rdOf; simp [List.getD_eq_getElem?_getD, List.getElem?_eq_getElem h]
theorem lev_l1 (l : List S31) (d m : Int) (L : List (Int × Bool)) (i : Int) (hL : L.length ≤ 100000) {r : Int × Int} (hc : Ev (fun k => selfstabref05_levels.l2 k l (max d (L.length : Int)) (max m (cnt L)) (lf L) (op_ L) i) r) :
    ∀ (n j : Nat), j + n = L.length → Ev (fun k => selfstabref05_levels.l1 k l d m (lf L) (op_ L) i (cntB ((op_ L).take j)) (j : Int)) r := by
  intro n
  induction n with
  | zero =>
    intro j hj
    refine Ev.step (fun k => by simp only [selfstabref05_levels.l1]; rfl) ?_
    rw [Pv.mx_eq, Pv.mx_eq, lf_len, op_len, List.take_of_length_le (by rw [op_len]; omega), cntB_op]
    exact Pv.neg (by omega) hc
  | succ n ih =>
    intro j hj
    have hlt : j < (op_ L).length := by rw [op_len]; omega
    refine Ev.step (fun k => by simp only [selfstabref05_levels.l1]; rfl) ?_
    refine Pv.pos (by omega) (Pv.pos (by omega) ?_)
    rw [rdOf_lt hlt]
    have e1 : wrap64 ((j : Int) + 1) = ((j + 1 : Nat) : Int) := by rw [Pv.w64 (by omega) (by omega)]; omega
    have h2 := ih (j + 1) (by omega)
    have e3 : (op_ L).take (j + 1) = (op_ L).take j ++ [(op_ L)[j]] := by rw [List.take_succ_eq_append_getElem hlt]
    have hb : cntB ((op_ L).take j) ≤ 100000 := by
      unfold cntB
      have h4 := List.length_filter_le id ((op_ L).take j)
      have h5 := List.length_take_le j (op_ L)
      omega
    have hb0 : 0 ≤ cntB ((op_ L).take j) := by unfold cntB; omega
    rw [e1]
    cases hbv : (op_ L)[j] with
    | true =>
      refine Pv.pos (by trivial) ?_
      have e4 : wrap64 (cntB ((op_ L).take j) + 1) = cntB ((op_ L).take (j + 1)) := by
        rw [Pv.w64 (by omega) (by omega), e3, hbv]
        unfold cntB
        rw [List.filter_append, List.length_append]
        rfl
      rw [e4]
      exact h2
    | false =>
      refine Pv.neg (by decide) ?_
      have e4 : cntB ((op_ L).take j) = cntB ((op_ L).take (j + 1)) := by
        rw [e3, hbv]
        unfold cntB
        rw [List.filter_append, List.length_append]
        rfl
      rw [e4]
      exact h2
theorem lf_last (c : Int) (b : Bool) (q : List (Int × Bool)) : rd (lf ((c, b) :: q)) (q.length : Int) = c := by
  unfold lf
  have := rd_rev (q.map (·.1)) c
  simpa using this
theorem w_len (c : Int) (b : Bool) (q : List (Int × Bool)) (h : q.length ≤ 100000) : wrap64 (((lf ((c, b) :: q)).length : Int) - 1) = q.length ∧ wrap64 (((op_ ((c, b) :: q)).length : Int) - 1) = q.length := by
  rw [lf_len, op_len, List.length_cons]
  constructor <;> (rw [Pv.w64 (by omega) (by omega)]; omega)
theorem lf_take (c : Int) (b : Bool) (q : List (Int × Bool)) : (lf ((c, b) :: q)).take ((q.length : Int)).toNat = lf q ∧ (op_ ((c, b) :: q)).take ((q.length : Int)).toNat = op_ q := by
  constructor <;> simp [lf, op_, List.take_append_of_le_length]
def decr : List (Int × Bool) → List (Int × Bool)
  | [] => []
  | (c, b) :: q => (c - 1, b) :: q
theorem lf_set (c c' : Int) (b : Bool) (q : List (Int × Bool)) : (lf ((c, b) :: q)).set ((q.length : Int)).toNat c' = lf ((c', b) :: q) := by
  simp [lf]
/-- What the inner loop leaves. -/
theorem lev_l2 (l : List S31) (d m i : Int) (hi0 : 0 ≤ i) (hi : i ≤ 100000) {r : Int × Int} : ∀ (q : List (Int × Bool)), q.length ≤ 100000 → (∀ x ∈ q, 1 ≤ x.1 ∧ x.1 ≤ 1000) →
    Ev (fun k => selfstabref05_levels.l0 k l d m (lf (done q)) (op_ (done q)) (i + 1)) r → Ev (fun k => selfstabref05_levels.l2 k l d m (lf (decr q)) (op_ (decr q)) i) r := by
  have stay : ∀ (L : List (Int × Bool)) (c : Int) (b : Bool) (q : List (Int × Bool)), L = (c, b) :: q → q.length ≤ 100000 → c ≠ 0 → Ev (fun k => selfstabref05_levels.l0 k l d m (lf L) (op_ L) (i + 1)) r → Ev (fun k => selfstabref05_levels.l2 k l d m (lf L) (op_ L) i) r := by
    intro L c b q hLe hq hc h
    subst hLe
    refine Ev.step (fun k => by simp only [selfstabref05_levels.l2]; rfl) ?_
    rw [(w_len c b q hq).1, lf_last, lf_len, List.length_cons]
    refine Pv.pos (by omega) (Pv.pos (by omega) (Pv.pos (by omega) ?_))
    refine Ev.step (fun k => by simp only [selfstabref05_levels.j3]; rfl) ?_
    rw [Pv.w64 (x := i + 1) (by omega) (by omega)]
    exact Pv.neg (by simpa using hc) h
  intro q
  induction q with
  | nil =>
    intro _ _ h
    refine Ev.step (fun k => by simp only [selfstabref05_levels.l2]; rfl) ?_
    refine Pv.neg (by simp [decr, lf]) ?_
    refine Ev.step (fun k => by simp only [selfstabref05_levels.j3]; rfl) ?_
    rw [Pv.w64 (x := i + 1) (by omega) (by omega)]
    exact Pv.neg (by simp) h
  | cons a q ih =>
    obtain ⟨c, b⟩ := a
    intro hl hb h
    simp only [List.length_cons] at hl
    by_cases hc : c = 1
    · subst hc
      have hd : done ((1, b) :: q) = done q := by show (if (1 : Int) = 1 then done q else _) = _; rw [if_pos rfl]
      rw [hd] at h
      have h2 := ih (by omega) (fun x hx => hb x (by simp [hx])) h
      show Ev (fun k => selfstabref05_levels.l2 k l d m (lf ((1 - 1, b) :: q)) (op_ ((1 - 1, b) :: q)) i) r
      refine Ev.step (fun k => by simp only [selfstabref05_levels.l2]; rfl) ?_
      rw [(w_len _ b q (by omega)).1, lf_last, lf_len, List.length_cons]
      refine Pv.pos (by omega) (Pv.pos (by omega) (Pv.pos (by omega) ?_))
      refine Ev.step (fun k => by simp only [selfstabref05_levels.j3]; rfl) ?_
      rw [(w_len _ b q (by omega)).1, (w_len _ b q (by omega)).2, (lf_take _ b q).1, (lf_take _ b q).2, lf_len, op_len, List.length_cons]
      refine Pv.pos (by decide) (Pv.pos (by omega) (Pv.pos (by omega) (Pv.some_bind ?_)))
      refine Pv.pos (by omega) (Pv.pos (by omega) (Pv.some_bind ?_))
      cases q with
      | nil => exact Pv.neg (by simp [lf]) h2
      | cons a2 q2 =>
        obtain ⟨c2, b2⟩ := a2
        simp only [List.length_cons] at hl
        have hb2 := hb (c2, b2) (by simp)
        simp only at hb2
        rw [(w_len _ b2 q2 (by omega)).1, lf_last, lf_len, List.length_cons, lf_set, Pv.w64 (x := c2 - 1) (by omega) (by omega)]
        exact Pv.pos (by omega) (Pv.pos (by omega) (Pv.pos (by omega) h2))
    · have hd : done ((c, b) :: q) = (c - 1, b) :: q := by show (if c = 1 then done q else _) = _; rw [if_neg hc]
      rw [hd] at h
      exact stay ((c - 1, b) :: q) (c - 1) b q rfl (by omega) (by omega) h
theorem done_ok : ∀ (q : List (Int × Bool)), (∀ x ∈ q, 1 ≤ x.1 ∧ x.1 ≤ 1000) → (∀ x ∈ done q, 1 ≤ x.1 ∧ x.1 ≤ 1000) ∧ (done q).length ≤ q.length
  | [], _ => ⟨fun x hx => by simp [done] at hx, Nat.le_refl _⟩
  | (c, b) :: q, h => by
    by_cases hc : c = 1
    · have hd : done ((c, b) :: q) = done q := by show (if c = 1 then done q else _) = _; rw [if_pos hc]
      have := done_ok q (fun x hx => h x (by simp [hx]))
      rw [hd]
      exact ⟨this.1, by rw [List.length_cons]; omega⟩
    · have hd : done ((c, b) :: q) = (c - 1, b) :: q := by show (if c = 1 then done q else _) = _; rw [if_neg hc]
      rw [hd]
      refine ⟨fun x hx => ?_, by simp⟩
      rcases List.mem_cons.1 hx with rfl | hx
      · have := h (c, b) (by simp); simp only at this ⊢; omega
      · exact h x (by simp [hx])
theorem lev_l0 (l : List S31) (hl : l.length ≤ 10000) (hv : ∀ t ∈ l, 0 ≤ ar t.f0) : ∀ (n i : Nat) (d m : Int) (L : List (Int × Bool)), i + n = l.length → L.length ≤ i → (∀ x ∈ L, 1 ≤ x.1 ∧ x.1 ≤ 1000) →
    Ev (fun k => selfstabref05_levels.l0 k l d m (lf L) (op_ L) (i : Int)) (fwd opS (l.drop i) d m L) := by
  intro n
  induction n with
  | zero =>
    intro i d m L hi hL hx
    obtain rfl : i = l.length := by omega
    refine Ev.step (fun k => by simp only [selfstabref05_levels.l0]; rfl) ?_
    rw [List.drop_length]
    exact Pv.neg (by omega) (Ev.now _)
  | succ n ih =>
    intro i d m L hi hL hx
    have hlt : i < l.length := by omega
    refine Ev.step (fun k => by simp only [selfstabref05_levels.l0]; rfl) ?_
    refine Pv.pos (by omega) (Pv.pos (by omega) ?_)
    rw [rdT hlt]
    have hr := ar_range (l[i]).f0
    have h0 := hv l[i] (by simp)
    refine Ev.bind (rarity _) (Pv.pos (by rw [lf_len]; omega) (Pv.const_bind (aggr _) (Pv.pos (by rw [op_len]; omega) ?_)))
    have e1 : lf L ++ [ar (l[i]).f0] = lf ((ar (l[i]).f0, agg (l[i]).f0) :: L) := by simp [lf]
    have e2 : op_ L ++ [agg (l[i]).f0] = op_ ((ar (l[i]).f0, agg (l[i]).f0) :: L) := by simp [op_]
    rw [e1, e2]
    have hfw : fwd opS (l.drop i) d m L = fwd opS (l.drop (i + 1)) (max d (L.length + 1)) (max m ((if agg (l[i]).f0 then 1 else 0) + cnt L)) (if ar (l[i]).f0 = 0 then done L else (ar (l[i]).f0, agg (l[i]).f0) :: L) := by
      rw [List.drop_eq_getElem_cons hlt]; rfl
    refine lev_l1 l d m ((ar (l[i]).f0, agg (l[i]).f0) :: L) (i : Int) (by rw [List.length_cons]; omega) ?_ ((L.length + 1)) 0 (by simp)
    have hcn : cnt ((ar (l[i]).f0, agg (l[i]).f0) :: L) = (if agg (l[i]).f0 then 1 else 0) + cnt L := rfl
    rw [hfw, hcn, List.length_cons]
    have e3 : (((L.length + 1 : Nat)) : Int) = (L.length : Int) + 1 := by omega
    rw [e3]
    by_cases ha : ar (l[i]).f0 = 0
    · rw [if_pos ha, ha]
      obtain ⟨k1, k2⟩ := done_ok L hx
      have := lev_l2 l (max d ((L.length : Int) + 1)) (max m ((if agg (l[i]).f0 then 1 else 0) + cnt L)) (i : Int) (by omega) (by omega) (r := fwd opS (l.drop (i + 1)) (max d (L.length + 1)) (max m ((if agg (l[i]).f0 then 1 else 0) + cnt L)) (done L)) ((1, agg (l[i]).f0) :: L) (by rw [List.length_cons]; omega)
        (fun x hx' => by
          rcases List.mem_cons.1 hx' with rfl | h
          · simp
          · exact hx x h) (by
          have hd : done ((1, agg (l[i]).f0) :: L) = done L := by show (if (1 : Int) = 1 then done L else _) = _; rw [if_pos rfl]
          rw [hd]
          have := ih (i + 1) (max d ((L.length : Int) + 1)) (max m ((if agg (l[i]).f0 then 1 else 0) + cnt L)) (done L) (by omega) (by omega) k1
          simpa using this)
      exact this
    · rw [if_neg ha]
      have := lev_l2 l (max d ((L.length : Int) + 1)) (max m ((if agg (l[i]).f0 then 1 else 0) + cnt L)) (i : Int) (by omega) (by omega) (r := fwd opS (l.drop (i + 1)) (max d (L.length + 1)) (max m ((if agg (l[i]).f0 then 1 else 0) + cnt L)) ((ar (l[i]).f0, agg (l[i]).f0) :: L)) ((ar (l[i]).f0 + 1, agg (l[i]).f0) :: L) (by rw [List.length_cons]; omega)
        (fun x hx' => by
          rcases List.mem_cons.1 hx' with rfl | h
          · simp only; omega
          · exact hx x h) (by
          have hd : done ((ar (l[i]).f0 + 1, agg (l[i]).f0) :: L) = (ar (l[i]).f0, agg (l[i]).f0) :: L := by
            show (if ar (l[i]).f0 + 1 = 1 then done L else (ar (l[i]).f0 + 1 - 1, _) :: L) = _
            rw [if_neg (by omega)]; simp
          rw [hd]
          have := ih (i + 1) (max d ((L.length : Int) + 1)) (max m ((if agg (l[i]).f0 then 1 else 0) + cnt L)) ((ar (l[i]).f0, agg (l[i]).f0) :: L) (by omega) (by rw [List.length_cons]; omega) (fun x hx' => by
            rcases List.mem_cons.1 hx' with rfl | h
            · simp only; omega
            · exact hx x h)
          simpa using this)
      have e5 : decr ((ar (l[i]).f0 + 1, agg (l[i]).f0) :: L) = (ar (l[i]).f0, agg (l[i]).f0) :: L := by
        show (ar (l[i]).f0 + 1 - 1, _) :: L = _
        simp
      rw [e5] at this
      exact this
theorem Exs_ar {n : Nat} {l : List S31} (h : Exs opS n l) : ∀ t ∈ l, 0 ≤ ar t.f0 := by
  induction h with
  | nil => intro t ht; simp at ht
  | cons t m n ts rest ht _ _ ih1 ih2 =>
    intro u hu
    rcases List.mem_cons.1 hu with rfl | hu
    · have : ar u.f0 = m := ht
      omega
    · rcases List.mem_append.1 hu with hu | hu
      · exact ih1 u hu
      · exact ih2 u hu
theorem rlevels (l : List S31) (hl : l.length ≤ 10000) (h : oneS l = true) : Ev (fun k => selfstabref05_levels.f k l) (mxl (vals opS ofD l), mxl (vals opS ofN l)) := by
  have h1 := (oneS_iff l).1 h
  have := lev_l0 l hl (Exs_ar h1) l.length 0 0 0 [] (by omega) (by simp) (fun x hx => by simp at hx)
  rw [List.drop_zero, fwd_one opS h1] at this
  exact this
theorem rdepth (l : List S31) (hl : l.length ≤ 10000) : Ev (fun k => selfstabref05_Depth.f k l) (dep l) := by
  refine Ev.bind (rone l (by omega)) ?_
  unfold dep
  by_cases h : oneS l = true
  · rw [if_pos h]
    exact Pv.pos h (Ev.bind (rlevels l hl h) (Ev.now _))
  · rw [if_neg h]
    exact Pv.neg h (Ev.now _)
theorem rnest (l : List S31) (hl : l.length ≤ 10000) : Ev (fun k => selfstabref05_Nest.f k l) (nst l) := by
  refine Ev.bind (rone l (by omega)) ?_
  unfold nst
  by_cases h : oneS l = true
  · rw [if_pos h]
    exact Pv.pos h (Ev.bind (rlevels l hl h) (Ev.now _))
  · rw [if_neg h]
    exact Pv.neg h (Ev.now _)
end Go.Proofs.Ytbjigmgiecgolaa.Fn05
