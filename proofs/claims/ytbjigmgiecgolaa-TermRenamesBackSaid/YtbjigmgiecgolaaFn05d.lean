/- Rename, Reads and permutations, as plain lists. -/
import Derived.Test.YtbjigmgiecgolaaFn05c
import Derived.Test.YtbjigmgiecgolaaP13
namespace Go.Proofs.Ytbjigmgiecgolaa.Fn05
open Go.RowKit Go.Proofs.Ytbjigmgiecgolaa.P Go.Proofs.YtbjigmgiecgolaaW.PrintWords Go.Proofs.YtbjigmgiecgolaaW.PrintLast Go.Proofs.YtbjigmgiecgolaaW.PrintMore Go.Proofs.Ytbjigmgiecgolaa.Math05
set_option linter.unusedVariables false
set_option linter.unusedSimpArgs false

/-! What does not look at Arg. -/
section
variable {g : S31 → S31} (hg : ∀ t, (g t).f0 = t.f0)
include hg
theorem skip_map : ∀ (l : List S31) (n : Nat), skip opS (l.map g) n = (skip opS l n).map (List.map g)
  | l, 0 => by rw [skip_zero, skip_zero]; rfl
  | [], n + 1 => rfl
  | t :: ts, n + 1 => by
    show (if ar (opS (g t)) < 0 then none else skip opS (ts.map g) (n + (ar (opS (g t))).toNat)) = (if ar (opS t) < 0 then none else skip opS ts (n + (ar (opS t)).toNat)).map (List.map g)
    have e : opS (g t) = opS t := hg t
    rw [e]
    split
    · rfl
    · exact skip_map ts _
theorem vals_map (of : Int → Int → Int) : ∀ (l : List S31), vals opS of (l.map g) = vals opS of l
  | [] => rfl
  | t :: ts => by
    show of (opS (g t)) (mxl ((vals opS of (ts.map g)).take (ar (opS (g t))).toNat)) :: (vals opS of (ts.map g)).drop (ar (opS (g t))).toNat = _
    have e : opS (g t) = opS t := hg t
    rw [e, vals_map of ts]
    rfl
theorem one_map (l : List S31) : oneS (l.map g) = oneS l := by
  unfold oneS
  rw [show (0 : Int) = ((0 : Nat) : Int) from rfl, endS_nat, endS_nat]
  unfold endW
  rw [List.drop_zero, List.drop_zero, skip_map hg]
  cases skip opS l 1 with
  | none => simp
  | some r => simp
theorem dep_map (l : List S31) : dep (l.map g) = dep l := by unfold dep; rw [one_map hg, vals_map hg]
theorem nst_map (l : List S31) : nst (l.map g) = nst l := by unfold nst; rw [one_map hg, vals_map hg]
end

/-! Lists of six numbers. -/
def Six (m : List Int) : Prop := m.length = 6 ∧ ∀ i : Nat, i < 6 → 0 ≤ rd m (i : Int) ∧ rd m (i : Int) < 6
def Inj (m : List Int) : Prop := ∀ i j : Nat, i < 6 → j < 6 → rd m (i : Int) = rd m (j : Int) → i = j
theorem rd_set (m : List Int) (i j : Nat) (x : Int) (hi : i < m.length) : rd (m.set i x) (j : Int) = if j = i then x else rd m (j : Int) := by
  unfold rd
  rw [Int.toNat_natCast, List.getD_eq_getElem?_getD, List.getD_eq_getElem?_getD, List.getElem?_set]
  by_cases h : i = j
  · subst h; simp [hi]
  · rw [if_neg h, if_neg (fun e => h e.symm)]

def ren (m : List Int) (t : S31) : S31 := if t.f0 = 5 then ⟨t.f0, rd m t.f1⟩ else if t.f0 = 12 then ⟨t.f0, rd m t.f1⟩ else t
theorem ren_op (m : List Int) (t : S31) : (ren m t).f0 = t.f0 := by unfold ren; split <;> (try rfl); split <;> rfl
theorem arg_var {t : S31} (h : argS 6 t = true) (ho : t.f0 = 5 ∨ t.f0 = 12) : 0 ≤ t.f1 ∧ t.f1 < 6 := by
  unfold argS limS at h
  rw [Bool.and_eq_true, decide_eq_true_eq, decide_eq_true_eq] at h
  rcases ho with ho | ho <;> (rw [ho] at h; simp at h; omega)
theorem arg_ren {m : List Int} (hm : Six m) {t : S31} (h : argS 6 t = true) : argS 6 (ren m t) = true := by
  by_cases h5 : t.f0 = 5
  · obtain ⟨a, b⟩ := arg_var h (.inl h5)
    obtain ⟨i, hi⟩ := Int.eq_ofNat_of_zero_le a
    have := hm.2 i (by omega)
    rw [← hi] at this
    unfold ren; rw [if_pos h5]
    unfold argS limS
    simp only [h5]
    rw [decide_eq_true this.1, decide_eq_true (by simp; omega)]; rfl
  · by_cases h12 : t.f0 = 12
    · obtain ⟨a, b⟩ := arg_var h (.inr h12)
      obtain ⟨i, hi⟩ := Int.eq_ofNat_of_zero_le a
      have := hm.2 i (by omega)
      rw [← hi] at this
      unfold ren; rw [if_neg h5, if_pos h12]
      unfold argS limS
      simp only [h12]
      rw [decide_eq_true this.1, decide_eq_true (by simp; omega)]; rfl
    · unfold ren; rw [if_neg h5, if_neg h12]; exact h
theorem valid_ren {m : List Int} (hm : Six m) {l : List S31} (h : validS l 6 = true) : validS (l.map (ren m)) 6 = true := by
  unfold validS at h ⊢
  rw [List.length_map, one_map (ren_op m), dep_map (ren_op m), nst_map (ren_op m)]
  simp only [Bool.and_eq_true, List.all_eq_true, List.mem_map] at h ⊢
  refine ⟨h.1, h.2.1, h.2.2.1, h.2.2.2.1, ?_⟩
  rintro x ⟨t, ht, rfl⟩
  exact arg_ren hm (h.2.2.2.2 t ht)
theorem ren_back {m b : List Int} (hb : ∀ i : Nat, i < 6 → rd b (rd m (i : Int)) = (i : Int)) {t : S31} (h : argS 6 t = true) : ren b (ren m t) = t := by
  have key : (t.f0 = 5 ∨ t.f0 = 12) → rd b (rd m t.f1) = t.f1 := by
    intro ho
    obtain ⟨a, c⟩ := arg_var h ho
    obtain ⟨i, hi⟩ := Int.eq_ofNat_of_zero_le a
    rw [hi]
    exact hb i (by omega)
  by_cases h5 : t.f0 = 5
  · have e : ren m t = ⟨t.f0, rd m t.f1⟩ := by unfold ren; rw [if_pos h5]
    rw [e]; unfold ren; simp only [h5, if_true]
    rw [key (.inl h5), ← h5]
  · by_cases h12 : t.f0 = 12
    · have e : ren m t = ⟨t.f0, rd m t.f1⟩ := by unfold ren; rw [if_neg h5, if_pos h12]
      rw [e]; unfold ren; simp only [if_neg h5, h12, if_true]
      rw [if_neg (by decide), key (.inr h12), ← h12]
    · have e : ren m t = t := by unfold ren; rw [if_neg h5, if_neg h12]
      rw [e]
      unfold ren; rw [if_neg h5, if_neg h12]

/-! term.Rename -/
theorem ren_l1 (l : List S31) (m : List Int) (hm : m.length = 6) (hl : l.length ≤ 10000) (hv : ∀ t ∈ l, argS 6 t = true) : ∀ (n i : Nat), i + n = l.length → Ev (fun k => term_Rename.l1 k m (l.length : Int) ((l.take i).map (ren m) ++ l.drop i) (i : Int)) (l.map (ren m), 0) := by
  intro n
  induction n with
  | zero =>
    intro i hi
    refine Ev.step (fun k => by simp only [term_Rename.l1]; rfl) ?_
    rw [List.take_of_length_le (by omega), List.drop_of_length_le (by omega), List.append_nil]
    exact Pv.neg (by omega) (Ev.now _)
  | succ n ih =>
    intro i hi
    have hlt : i < l.length := by omega
    refine Ev.step (fun k => by simp only [term_Rename.l1]; rfl) ?_
    have hlen : ((l.take i).map (ren m)).length = i := by rw [List.length_map, List.length_take]; omega
    have hrd : rd_T31 ((l.take i).map (ren m) ++ l.drop i) (i : Int) = l[i] := by
      unfold rd_T31
      rw [Int.toNat_natCast, List.getD_eq_getElem?_getD, List.getElem?_append_right (by omega), hlen, Nat.sub_self, List.getElem?_drop, Nat.add_zero, List.getElem?_eq_getElem hlt]; rfl
    rw [hrd]
    have hnext : ∀ y : S31, ((l.take i).map (ren m) ++ l.drop i).set ((i : Int)).toNat y = (l.take i).map (ren m) ++ y :: l.drop (i + 1) := by
      intro y
      rw [Int.toNat_natCast, List.set_append_right _ _ (by omega), hlen, Nat.sub_self, List.drop_eq_getElem_cons hlt, List.set_cons_zero]
    have hgo : (l.take i).map (ren m) ++ ren m l[i] :: l.drop (i + 1) = (l.take (i + 1)).map (ren m) ++ l.drop (i + 1) := by
      rw [List.take_succ_eq_append_getElem hlt, List.map_append, List.append_assoc]; rfl
    have hargs := hv l[i] (List.getElem_mem hlt)
    have e1 : wrap64 ((i : Int) + 1) = ((i + 1 : Nat) : Int) := by rw [Pv.w64 (by omega) (by omega)]; omega
    refine Pv.pos (by omega) (Pv.pos (by omega) ?_)
    by_cases h5 : (l[i]).f0 = 5
    · obtain ⟨a, b⟩ := arg_var hargs (.inl h5)
      refine Pv.pos h5 (Pv.pos a (Pv.pos (by omega) ?_))
      rw [hnext, e1, show (⟨(l[i]).f0, rd m (l[i]).f1⟩ : S31) = ren m l[i] from by unfold ren; rw [if_pos h5], hgo]
      exact ih (i + 1) (by omega)
    · refine Pv.neg h5 ?_
      by_cases h12 : (l[i]).f0 = 12
      · obtain ⟨a, b⟩ := arg_var hargs (.inr h12)
        refine Pv.pos h12 (Pv.pos a (Pv.pos (by omega) ?_))
        rw [hnext, e1, show (⟨(l[i]).f0, rd m (l[i]).f1⟩ : S31) = ren m l[i] from by unfold ren; rw [if_neg h5, if_pos h12], hgo]
        exact ih (i + 1) (by omega)
      · refine Pv.neg h12 ?_
        have : (l.take i).map (ren m) ++ l.drop i = (l.take (i + 1)).map (ren m) ++ l.drop (i + 1) := by
          rw [← hgo, show ren m l[i] = l[i] from by unfold ren; rw [if_neg h5, if_neg h12], List.drop_eq_getElem_cons hlt]
        rw [this, e1]
        exact ih (i + 1) (by omega)
theorem ren_l0 (l : List S31) (m : List Int) (hm : Six m) (hl0 : 0 < l.length) (hl : l.length ≤ 10000) (hv : ∀ t ∈ l, argS 6 t = true) : ∀ (n i : Nat), i + n = 6 → Ev (fun k => term_Rename.l0 k l m (i : Int)) (l.map (ren m), 0) := by
  intro n
  induction n with
  | zero =>
    intro i hi
    refine Ev.step (fun k => by simp only [term_Rename.l0]; rfl) ?_
    refine Pv.neg (by have := hm.1; omega) (Pv.pos hl0 (Pv.pos (by omega) ?_))
    have := ren_l1 l m hm.1 hl hv l.length 0 (by omega)
    simpa using this
  | succ n ih =>
    intro i hi
    refine Ev.step (fun k => by simp only [term_Rename.l0]; rfl) ?_
    have h6 := hm.2 i (by omega)
    have e1 : wrap64 ((i : Int) + 1) = ((i + 1 : Nat) : Int) := by rw [Pv.w64 (by omega) (by omega)]; omega
    refine Pv.pos (by have := hm.1; omega) (Pv.pos (by omega) (Pv.neg (by omega) (Pv.neg (by omega) ?_)))
    rw [e1]
    exact ih (i + 1) (by omega)
theorem trename (l : List S31) (m : List Int) (hm : Six m) (h : validS l 6 = true) : Ev (fun k => term_Rename.f k l m) (l.map (ren m), 0) := by
  obtain ⟨v1, hx, v3, v4, v5⟩ := (validS_iff l 6).1 h
  have e : ((m.length : Nat) : Int) = 6 := by rw [hm.1]; rfl
  have := tvalid l (m.length : Int) (by omega) (by omega)
  rw [e, h] at this
  refine Ev.bind (a := true) (by rw [e]; exact this) (Pv.pos rfl ?_)
  exact ren_l0 l m hm (List.length_pos_iff.2 (hx.ne_nil opS)) (by omega) v5 6 0 (by omega)

/-! term.Reads: sets of six. -/
theorem bits_or : ∀ n : Fin 64, ∀ a : Fin 6, Go.bits .or .u32 ((n.val : Nat) : Int) (shl .u32 1 ((a.val : Nat) : Int)) = ((n.val ||| (1 <<< a.val) : Nat) : Int) ∧ n.val ||| (1 <<< a.val) < 64 := by decide +kernel
theorem bits_get : ∀ n : Fin 64, ∀ a : Fin 6, Go.bits .and .u32 (shr .u32 ((n.val : Nat) : Int) (IntKind.u64.wrap ((a.val : Nat) : Int))) 1 = if n.val.testBit a.val then 1 else 0 := by decide +kernel
def setV (o : Int) (n : Nat) (t : S31) : Nat := if t.f0 = o then n ||| (1 <<< t.f1.toNat) else n
def readV (o : Int) (l : List S31) : Nat := l.foldl (setV o) 0
theorem set_lt {o : Int} {n : Nat} {t : S31} (hn : n < 64) (ht : t.f0 = o → 0 ≤ t.f1 ∧ t.f1 < 6) : setV o n t < 64 := by
  unfold setV
  split
  · rename_i h
    have := ht h
    exact (bits_or ⟨n, hn⟩ ⟨t.f1.toNat, by omega⟩).2
  · exact hn
theorem fold_lt {o : Int} : ∀ (l : List S31) (n : Nat), n < 64 → (∀ t ∈ l, t.f0 = o → 0 ≤ t.f1 ∧ t.f1 < 6) → l.foldl (setV o) n < 64
  | [], n, hn, _ => hn
  | t :: ts, n, hn, h => fold_lt ts _ (set_lt hn (h t (by simp))) (fun u hu => h u (by simp [hu]))
theorem fold_bit {o : Int} (j : Nat) : ∀ (l : List S31) (n : Nat), (l.foldl (setV o) n).testBit j = (n.testBit j || l.any (fun t => t.f0 == o && t.f1.toNat == j))
  | [], n => by simp
  | t :: ts, n => by
    rw [List.foldl_cons, fold_bit j ts, List.any_cons]
    unfold setV
    by_cases h : t.f0 = o
    · rw [if_pos h, beq_iff_eq.2 h, Nat.testBit_or, Nat.one_shiftLeft, Nat.testBit_two_pow, Bool.true_and]
      cases n.testBit j
      · simp only [Bool.false_or]; rfl
      · simp only [Bool.true_or]
    · rw [if_neg h, beq_eq_false_iff_ne.2 h]; simp
theorem reads_l0 (l : List S31) (hl : l.length ≤ 10000) (hv : ∀ t ∈ l, argS 6 t = true) : ∀ (n i : Nat) (a b : Nat), i + n = l.length → a < 64 → b < 64 → Ev (fun k => term_Reads.l0 k (a : Int) (b : Int) l (l.length : Int) (i : Int)) ((((l.drop i).foldl (setV 5) a : Nat) : Int), (((l.drop i).foldl (setV 12) b : Nat) : Int)) := by
  intro n
  induction n with
  | zero =>
    intro i a b hi _ _
    refine Ev.step (fun k => by simp only [term_Reads.l0]; rfl) ?_
    rw [List.drop_of_length_le (by omega)]
    exact Pv.neg (by omega) (Ev.now _)
  | succ n ih =>
    intro i a b hi ha hb
    have hlt : i < l.length := by omega
    have e1 : wrap64 ((i : Int) + 1) = ((i + 1 : Nat) : Int) := by rw [Pv.w64 (by omega) (by omega)]; omega
    have hargs := hv l[i] (List.getElem_mem hlt)
    refine Ev.step (fun k => by simp only [term_Reads.l0]; rfl) ?_
    rw [rdT hlt, List.drop_eq_getElem_cons hlt, List.foldl_cons, List.foldl_cons, e1]
    refine Pv.pos (by omega) (Pv.pos (by omega) (Pv.pos (by omega) ?_))
    by_cases h5 : (l[i]).f0 = 5
    · obtain ⟨c, d⟩ := arg_var hargs (.inl h5)
      obtain ⟨j, hj⟩ := Int.eq_ofNat_of_zero_le c
      have hb5 := bits_or ⟨a, ha⟩ ⟨j, by omega⟩
      have e2 : setV 5 a l[i] = a ||| (1 <<< j) := by unfold setV; rw [if_pos h5, hj, Int.toNat_natCast]
      have e3 : setV 12 b l[i] = b := by unfold setV; rw [if_neg (by omega)]
      refine Pv.pos h5 (Pv.pos c ?_)
      rw [hj, hb5.1, e2, e3]
      exact ih (i + 1) _ _ (by omega) hb5.2 hb
    · refine Pv.neg h5 ?_
      have e2 : setV 5 a l[i] = a := by unfold setV; rw [if_neg h5]
      by_cases h12 : (l[i]).f0 = 12
      · obtain ⟨c, d⟩ := arg_var hargs (.inr h12)
        obtain ⟨j, hj⟩ := Int.eq_ofNat_of_zero_le c
        have hb5 := bits_or ⟨b, hb⟩ ⟨j, by omega⟩
        have e3 : setV 12 b l[i] = b ||| (1 <<< j) := by unfold setV; rw [if_pos h12, hj, Int.toNat_natCast]
        refine Pv.pos h12 (Pv.pos c ?_)
        rw [hj, hb5.1, e2, e3]
        exact ih (i + 1) _ _ (by omega) ha hb5.2
      · have e3 : setV 12 b l[i] = b := by unfold setV; rw [if_neg h12]
        refine Pv.neg h12 ?_
        rw [e2, e3]
        exact ih (i + 1) _ _ (by omega) ha hb
theorem treads (l : List S31) (h : validS l 6 = true) : Ev (fun k => term_Reads.f k l) (((readV 5 l : Nat) : Int), ((readV 12 l : Nat) : Int)) := by
  obtain ⟨v1, hx, v3, v4, v5⟩ := (validS_iff l 6).1 h
  have h1 := tvalid l 6 (by omega) (by omega)
  rw [h] at h1
  refine Ev.bind h1 (Pv.pos rfl ?_)
  have := reads_l0 l (by omega) v5 l.length 0 0 0 (by omega) (by omega) (by omega)
  exact this
theorem readV_lt {o : Int} (ho : o = 5 ∨ o = 12) {l : List S31} (hv : ∀ t ∈ l, argS 6 t = true) : readV o l < 64 :=
  fold_lt l 0 (by omega) (fun t ht h => arg_var (hv t ht) (by omega))
/-- The variable i of the one is the variable m i of the other. -/
theorem read_ren {m : List Int} (hm : Six m) (hi : Inj m) {o : Int} (ho : o = 5 ∨ o = 12) {l : List S31} (hv : ∀ t ∈ l, argS 6 t = true) {i j : Nat} (hj : i < 6) (hmi : rd m (i : Int) = (j : Int)) :
    (readV o (l.map (ren m))).testBit j = (readV o l).testBit i := by
  unfold readV
  rw [fold_bit, fold_bit, List.any_map, Nat.zero_testBit, Nat.zero_testBit, Bool.false_or, Bool.false_or]
  rw [Bool.eq_iff_iff, List.any_eq_true, List.any_eq_true]
  have key : ∀ t ∈ l, ((fun t : S31 => t.f0 == o && t.f1.toNat == j) (ren m t) = true ↔ (t.f0 == o && t.f1.toNat == i) = true) := by
    intro t ht
    simp only [Bool.and_eq_true, beq_iff_eq, ren_op]
    by_cases h : t.f0 = o
    · obtain ⟨c, d⟩ := arg_var (hv t ht) (by omega)
      obtain ⟨q, hq⟩ := Int.eq_ofNat_of_zero_le c
      have e : (ren m t).f1 = rd m t.f1 := by
        unfold ren
        rcases ho with rfl | rfl
        · rw [if_pos h]
        · rw [if_neg (by omega), if_pos h]
      rw [e, hq, Int.toNat_natCast]
      have hb := hm.2 q (by omega)
      constructor
      · rintro ⟨_, h2⟩
        refine ⟨h, ?_⟩
        exact hi q i (by omega) hj (by omega)
      · rintro ⟨_, rfl⟩
        exact ⟨h, by omega⟩
    · exact ⟨fun h2 => absurd h2.1 h, fun h2 => absurd h2.1 h⟩
  constructor
  · rintro ⟨t, ht, h⟩; exact ⟨t, ht, (key t ht).1 h⟩
  · rintro ⟨t, ht, h⟩; exact ⟨t, ht, (key t ht).2 h⟩
end Go.Proofs.Ytbjigmgiecgolaa.Fn05
