/- Part of the proof of the law GraphtextWritesBack: Math02. -/
import Derived.Lib.SplitLaws
import Derived.Lib.CutLaws
import Derived.Lib.IndexBytes
namespace Go.Proofs.YtinfejpkjddbiaaDoor.Math02
open Go.Lib
def sp (c : UInt8) : List UInt8 → List (List UInt8)
 | [] => [[]]
 | x :: xs => if x = c then [] :: sp c xs else ((x :: (sp c xs).headD []) :: (sp c xs).tail)
theorem sp_ne (c : UInt8) : ∀ l, sp c l ≠ []
 | [] => by simp [sp]
 | x :: xs => by unfold sp; split <;> simp
theorem sp_cons (c : UInt8) (l : List UInt8) : ∃ h t, sp c l = h :: t := by
 cases hs : sp c l with
 | nil => exact absurd hs (sp_ne c l)
 | cons h t => exact ⟨h, t, rfl⟩
theorem sp_eq {c x : UInt8} (h : x = c) (l : List UInt8) : sp c (x :: l) = [] :: sp c l := by rw [sp, if_pos h]
theorem sp_other {c x : UInt8} (h : x ≠ c) {l h1 : List UInt8} {t : List (List UInt8)} (hs : sp c l = h1 :: t) : sp c (x :: l) = (x :: h1) :: t := by rw [sp, if_neg h, hs]; rfl
theorem sp_none {c : UInt8} : ∀ {l : List UInt8}, c ∉ l → sp c l = [l]
 | [], _ => rfl
 | x :: xs, h => by
  have h1 : x ≠ c := fun e => h (by rw [e]; exact List.mem_cons_self)
  exact sp_other h1 (sp_none (fun hm => h (List.mem_cons_of_mem _ hm)))
theorem sp_snoc (c : UInt8) : ∀ l : List UInt8, sp c (l ++ [c]) = sp c l ++ [[]]
 | [] => by rw [List.nil_append, sp_eq rfl]; rfl
 | x :: xs => by
  by_cases h : x = c
  ·rw [List.cons_append, sp_eq h, sp_eq h, sp_snoc c xs]; rfl
  ·obtain ⟨h1, t, hs⟩ := sp_cons c xs
   have := sp_snoc c xs
   rw [hs] at this
   rw [List.cons_append, sp_other h hs]
   exact sp_other h this
theorem sp_len (c : UInt8) : ∀ l : List UInt8, (sp c l).length ≤ l.length + 1
 | [] => Nat.le_refl _
 | x :: xs => by
  have ih := sp_len c xs
  by_cases h : x = c
  ·rw [sp_eq h, List.length_cons, List.length_cons]; omega
  ·obtain ⟨h1, t, hs⟩ := sp_cons c xs
   rw [hs] at ih
   rw [sp_other h hs]
   simp only [List.length_cons] at ih ⊢; omega
theorem sp_mem_len (c : UInt8) : ∀ (l : List UInt8), ∀ p ∈ sp c l, p.length ≤ l.length
 | [], p, h => by simp [sp] at h; simp [h]
 | x :: xs, p, h => by
  have ih := sp_mem_len c xs
  by_cases hx : x = c
  ·rw [sp_eq hx] at h
   rcases List.mem_cons.1 h with rfl | h
   ·simp
   ·have := ih p h; simp only [List.length_cons]; omega
  ·obtain ⟨h1, t, hs⟩ := sp_cons c xs
   rw [sp_other hx hs] at h
   rw [hs] at ih
   rcases List.mem_cons.1 h with rfl | h
   ·have := ih h1 List.mem_cons_self; simp only [List.length_cons]; omega
   ·have := ih p (List.mem_cons_of_mem _ h); simp only [List.length_cons]; omega
theorem sp_single {c : UInt8} : ∀ (l h : List UInt8), sp c l = [h] → l = h
 | [], h, hs => by simp only [sp, List.cons.injEq, and_true] at hs; exact hs
 | x :: xs, h, hs => by
  by_cases hx : x = c
  ·rw [sp_eq hx] at hs
   exact absurd (List.cons.inj hs).2 (sp_ne c xs)
  ·obtain ⟨h1, t, hs1⟩ := sp_cons c xs
   rw [sp_other hx hs1] at hs
   obtain ⟨rfl, rfl⟩ := List.cons.inj hs
   rw [sp_single xs h1 hs1]
theorem sp_last (c : UInt8) : ∀ (l : List UInt8), (sp c l).getLast (sp_ne c l) = [] ↔ (l = [] ∨ l.getLast? = some c)
 | [] => by simp [sp]
 | x :: xs => by
  have ih := sp_last c xs
  by_cases hx : x = c
  ·subst hx
   have e : (sp x (x :: xs)).getLast (sp_ne x _) = (sp x xs).getLast (sp_ne x xs) := by
    simp only [sp_eq rfl xs];exact List.getLast_cons _
   rw [e, ih]
   cases xs with
   | nil => simp
   | cons y ys => simp [List.getLast?_cons_cons]
  ·obtain ⟨h1, t, hs⟩ := sp_cons c xs
   have e : (sp c (x :: xs)).getLast (sp_ne c _) = ((x :: h1) :: t).getLast (by simp) := by simp only [sp_other hx hs]
   have e2 : (sp c xs).getLast (sp_ne c xs) = (h1 :: t).getLast (by simp) := by simp only [hs]
   rw [e]
   rw [e2] at ih
   cases t with
   | nil =>
    simp only [List.getLast_singleton] at ih ⊢
    cases xs with
    | nil => simp [hx]
    | cons y ys =>
     have hh : h1 ≠ [] := by
      intro e0;rw [e0] at hs
      have := sp_single _ _ hs
      cases this
     constructor
     ·intro h; simp at h
     ·intro h;rcases h with h | h
      ·simp at h
      ·rw [List.getLast?_cons_cons] at h
       exact absurd (ih.2 (Or.inr h)) hh
   | cons u us =>
    rw [List.getLast_cons (by simp)] at ih ⊢
    rw [ih]
    cases xs with
    | nil => simp [sp] at hs
    | cons y ys => simp [List.getLast?_cons_cons]
theorem index_cons {c x : UInt8} (l : List UInt8) : index (x :: l) [c] = if x = c then 0 else if index l [c] = -1 then -1 else index l [c] + 1 := by
 rw [index]
 by_cases h : x = c
 ·subst h; simp [List.isPrefixOf]
 ·rw [if_neg (by simp [List.isPrefixOf, Ne.symm h]), if_neg h]; simp
theorem splitK_cons {c x : UInt8} (h : x ≠ c) (k : Nat) (l : List UInt8) {h1 : List UInt8} {t : List (List UInt8)} (hs : splitK [c] 0 k l = h1 :: t) : splitK [c] 0 k (x :: l) = (x :: h1) :: t := by
 cases k with
 | zero =>
  simp only [splitK, List.cons.injEq] at hs
  obtain ⟨rfl, rfl⟩ := hs
  rfl
 | succ k =>
  unfold splitK at hs ⊢
  rw [index_cons, if_neg h]
  by_cases hm : index l [c] = -1
  ·rw [hm] at hs
   simp only [beq_self_eq_true, if_true, List.cons.injEq] at hs
   obtain ⟨rfl, rfl⟩ := hs
   rw [if_pos hm]; rfl
  ·have hge := index_ge l [c]
   rw [if_neg (by simpa using hm)] at hs
   rw [if_neg hm, if_neg (by rw [beq_iff_eq]; omega)]
   obtain ⟨j, hj⟩ : ∃ j : Nat, index l [c] = j := ⟨(index l [c]).toNat, by omega⟩
   rw [hj] at hs ⊢
   simp only [Nat.add_zero, Int.toNat_natCast, List.length_singleton, List.cons.injEq] at hs
   obtain ⟨e1, e2⟩ := hs
   have e3 : (((j : Int)) + 1).toNat = j + 1 := by omega
   rw [e3]
   simp only [Nat.add_zero, List.length_singleton, List.take_succ_cons, e1, List.cons.injEq, true_and];rw [show j + 1 + 1 = (j + 1) + 1 from rfl, List.drop_succ_cons]
   exact e2
theorem splitK_sp (c : UInt8) : ∀ (l : List UInt8), splitK [c] 0 (count l [c]) l = sp c l
 | [] => by
  have : count ([] : List UInt8) [c] = 0 := by rw [count_one]; rfl
  rw [this]; rfl
 | x :: xs => by
  have ih := splitK_sp c xs
  by_cases h : x = c
  ·subst h;rw [count_cons_eq, sp_eq rfl, ← ih, Nat.add_comm]
   conv => lhs; unfold splitK
   rw [index_cons, if_pos rfl]
   simp
  ·rw [count_cons_ne x c xs h]
   obtain ⟨h1, t, hs⟩ := sp_cons c xs
   rw [sp_other h hs]
   exact splitK_cons h _ xs (ih.trans hs)
def ba (l : List UInt8) : ByteArray := ⟨l.toArray⟩
theorem ba_data (l : List UInt8) : (ba l).data.toList = l := by simp [ba]
theorem ba_of (a : ByteArray) : ba a.data.toList = a := by cases a; simp [ba]
theorem ba_size (l : List UInt8) : (ba l).size = l.length := by simp [ba, ByteArray.size]
def spB (c : UInt8) (a : ByteArray) : List ByteArray := (sp c a.data.toList).map ba
theorem spB_of {c : UInt8} {a : ByteArray} {L : List ByteArray} (h : L.map (·.data.toList) = sp c a.data.toList) : L = spB c a := by
 unfold spB
 rw [← h, List.map_map]
 conv => lhs; rw [← List.map_id L]
 exact List.map_congr_left (fun x _ => (ba_of x).symm)
theorem splitB_spB (c : UInt8) (a : ByteArray) : splitB ⟨#[c]⟩ 0 (countB a ⟨#[c]⟩) a = spB c a := by
 refine spB_of ?_
 rw [splitB_data]
 exact splitK_sp c _
theorem cut_sp (c : UInt8) : ∀ (l : List UInt8) (h : List UInt8) (t : List (List UInt8)), sp c l = h :: t →
  (t = [] ∧ cut l [c] = (h, [], false)) ∨ (∃ r, cut l [c] = (h, r, true) ∧ sp c r = t)
 | [], h, t, hs => by
  simp only [sp, List.cons.injEq] at hs
  obtain ⟨rfl, rfl⟩ := hs
  exact Or.inl ⟨rfl, rfl⟩
 | x :: xs, h, t, hs => by
  by_cases hx : x = c
  ·subst hx;rw [sp_eq rfl] at hs
   obtain ⟨rfl, rfl⟩ := List.cons.inj hs
   refine Or.inr ⟨xs, ?_, rfl⟩
   unfold cut
   rw [index_cons, if_pos rfl]; simp
  ·obtain ⟨h1, t1, hs1⟩ := sp_cons c xs
   rw [sp_other hx hs1] at hs
   obtain ⟨rfl, rfl⟩ := List.cons.inj hs
   have hge := index_ge xs [c]
   rcases cut_sp c xs h1 t1 hs1 with ⟨ht, hc⟩ | ⟨r, hc, hr⟩
   ·refine Or.inl ⟨ht, ?_⟩
    unfold cut at hc ⊢
    by_cases h0 : 0 ≤ index xs [c]
    ·rw [if_pos h0] at hc; simp at hc
    ·rw [if_neg h0] at hc
     have hm : index xs [c] = -1 := by omega
     have hc1 := (Prod.mk.inj hc).1
     rw [index_cons, if_neg hx, if_pos hm, if_neg (by decide), hc1]
   ·refine Or.inr ⟨r, ?_, hr⟩
    unfold cut at hc ⊢
    by_cases h0 : 0 ≤ index xs [c]
    ·rw [if_pos h0] at hc
     obtain ⟨j, hj⟩ : ∃ j : Nat, index xs [c] = j := ⟨(index xs [c]).toNat, by omega⟩
     rw [hj] at hc
     simp only [Int.toNat_natCast, List.length_singleton, Prod.mk.injEq] at hc
     have e1 : index (x :: xs) [c] = ((j + 1 : Nat) : Int) := by rw [index_cons, if_neg hx, if_neg (by omega), hj]; omega
     rw [e1, if_pos (by omega), Int.toNat_natCast]
     simp only [List.length_singleton, List.take_succ_cons, hc.1];rw [show j + 1 + 1 = (j + 1) + 1 from rfl, List.drop_succ_cons, hc.2.1]
    ·rw [if_neg h0] at hc; simp at hc
def numL : List UInt8 → Int → Int × Bool
 | [], n => (n, true)
 | c :: cs, n => if (c.toNat : Int) < 48 then (0, false) else if (c.toNat : Int) > 57 then (0, false) else numL cs (10 * n + ((c.toNat : Int) - 48))
def numR (l : List UInt8) : Int × Bool := if l.length < 1 then (0, false) else if l.length > 6 then (0, false) else if l.headD 0 = 48 ∧ l.length > 1 then (0, false) else numL l 0
theorem numL_slash : ∀ (l : List UInt8) (n : Int), (47 : UInt8) ∈ l → numL l n = (0, false)
 | c :: cs, n, h => by
  unfold numL
  by_cases h1 : (c.toNat : Int) < 48
  ·rw [if_pos h1]
  ·rw [if_neg h1]
   by_cases h2 : (c.toNat : Int) > 57
   ·rw [if_pos h2]
   ·rw [if_neg h2]
    rcases List.mem_cons.1 h with rfl | h
    ·exact absurd (show ((47 : UInt8).toNat : Int) < 48 by decide) h1
    ·exact numL_slash cs _ h
theorem numR_slash {l : List UInt8} (h : (47 : UInt8) ∈ l) : numR l = (0, false) := by
 unfold numR
 repeat' split
 all_goals first | rfl | exact numL_slash l 0 h
end Go.Proofs.YtinfejpkjddbiaaDoor.Math02
