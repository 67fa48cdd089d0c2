/- Part of the proof of the law GraphtextWritesBack: Fn02. -/
import Derived.Test.YtinfejpkjddbiaaDoorGraphtextWritesBackP4
import Derived.Test.YtinfejpkjddbiaaDoorGraphtextWritesBackP13
import Derived.Test.YtinfejpkjddbiaaDoorGraphtextWritesBackFn01b
import Derived.Test.YtinfejpkjddbiaaDoorGraphtextWritesBackMath02
namespace Go.Proofs.YtinfejpkjddbiaaDoor.Fn02
open Go.RowKit Go.Proofs.YtinfejpkjddbiaaDoor.P Go.Proofs.YtinfejpkjddbiaaDoorW.PrintWords Go.Proofs.YtinfejpkjddbiaaDoorW.PrintLast Go.Proofs.YtinfejpkjddbiaaDoorW.PrintMore Go.Proofs.YtinfejpkjddbiaaDoor.Fn01 Go.Proofs.YtinfejpkjddbiaaDoor.Math02
set_option linter.unusedVariables false
set_option linter.unusedSimpArgs false
abbrev dl (a : ByteArray) : List UInt8 := a.data.toList
theorem dl_len (a : ByteArray) : (dl a).length = a.size := by rw [Array.length_toList]; rfl
theorem dl_extract (a : ByteArray) (i j : Nat) : dl (a.extract i j) = ((dl a).drop i).take (j - i) := by
 show (a.extract i j).data.toList = _
 rw [ByteArray.data_extract, Array.toList_extract, List.extract_eq_take_drop]
theorem bt_dl {a : ByteArray} {i : Nat} (h : i < (dl a).length) : bt a (i : Int) = (((dl a)[i]).toNat : Int) := by
 have h2 : i < a.size := by rw [← dl_len]; exact h
 unfold bt
 simp only [Int.toNat_natCast];rw [dif_pos h2]
 rfl
theorem toList_dl (a : ByteArray) : a.toList = dl a := Go.ByteArray.toList_eq a
theorem dl_ba (l : List UInt8) : dl (ba l) = l := ba_data l
theorem ba_eq {a b : ByteArray} (h : dl a = dl b) : a = b := by rw [← ba_of a, ← ba_of b]; exact congrArg ba h
theorem tsplit (a : ByteArray) (c : UInt8) (h : a.size ≤ 1000000) : strings_Split.f a ⟨#[c]⟩ = some (spB c a) := by
 unfold strings_Split.f
 rw [if_pos (by omega), if_pos (by show 1 ≤ 1; omega), splitB_spB]
theorem rsplit_l0 (a : ByteArray) (c : UInt8) (hs : a.size ≤ 1000000) : ∀ (n i f : Nat) (out : List ByteArray) (h : List UInt8) (t : List (List UInt8)), i + n = a.size → f ≤ i → out.length ≤ i → c ∉ ((dl a).drop f).take (i - f) →
  sp c ((dl a).drop i) = h :: t → Ev (fun k => selfstabref02_Split.l0 k a (c.toNat : Int) out (f : Int) (i : Int)) (out ++ ((((dl a).drop f).take (i - f) ++ h) :: t).map ba) := by
 intro n;induction n with
 | zero =>
  intro i f out h t hi hf ho hno hsp;obtain rfl : i = a.size := by omega
  rw [List.drop_of_length_le (by rw [dl_len]; exact Nat.le_refl _)] at hsp
  obtain ⟨rfl, rfl⟩ := List.cons.inj hsp
  refine Ev.step (fun k => by simp only [selfstabref02_Split.l0]; rfl) (Pv.neg (by omega) (Pv.pos (by omega) (Pv.pos (by omega) (Pv.pos (by omega) (Pv.as (Ev.now _) ?_)))))
  congr 1
  rw [List.append_nil]
  show [_] = [_]
  congr 1
  refine ba_eq ?_
  rw [dl_ba, dl_extract, Int.toNat_natCast]
 | succ n ih =>
  intro i f out h t hi hf ho hno hsp;have hlt : i < (dl a).length := by rw [dl_len]; omega
  have hd : (dl a).drop i = (dl a)[i] :: (dl a).drop (i + 1) := List.drop_eq_getElem_cons hlt
  refine Ev.step (fun k => by simp only [selfstabref02_Split.l0]; rfl) (Pv.pos (by omega) (Pv.pos (by omega) ?_))
  rw [bt_dl hlt, w1 (by omega)]
  rw [hd] at hsp
  by_cases hc : (dl a)[i] = c
  ·rw [sp_eq hc] at hsp
   obtain ⟨rfl, rfl⟩ := List.cons.inj hsp
   obtain ⟨h1, t1, hs1⟩ := sp_cons c ((dl a).drop (i + 1))
   refine Pv.pos (by rw [hc]) (Pv.pos (by omega) (Pv.pos (by omega) (Pv.pos (by omega) (Pv.pos (by omega) ?_))))
   have := ih (i + 1) (i + 1) (out ++ [a.extract f i]) h1 t1 (by omega) (Nat.le_refl _) (by rw [List.length_append]; simp; omega) (by simp) hs1
   rw [Nat.sub_self, List.take_zero, List.nil_append] at this
   rw [Int.toNat_natCast, Int.toNat_natCast]
   refine Pv.as this ?_
   rw [hs1, List.append_assoc]
   congr 1
   show _ :: _ = _ :: _
   congr 1
   refine ba_eq ?_
   rw [dl_ba, dl_extract, List.append_nil]
  ·obtain ⟨h1, t1, hs1⟩ := sp_cons c ((dl a).drop (i + 1))
   rw [sp_other hc hs1] at hsp
   obtain ⟨rfl, rfl⟩ := List.cons.inj hsp
   refine Pv.neg (fun e => hc (UInt8.toNat_inj.mp (by omega))) ?_
   have htk : ((dl a).drop f).take (i + 1 - f) = ((dl a).drop f).take (i - f) ++ [(dl a)[i]] := by
    rw [show i + 1 - f = (i - f) + 1 by omega, List.take_succ_eq_append_getElem (by rw [List.length_drop]; omega)]
    congr 1
    rw [List.getElem_drop]
    congr 2
    omega
   have := ih (i + 1) f out h1 t1 (by omega) (by omega) (by omega) (by
    rw [htk]
    intro hm;rcases List.mem_append.1 hm with hm | hm
    ·exact hno hm
    ·exact hc (List.mem_singleton.1 hm).symm) hs1
   refine Pv.as this ?_
   rw [htk, List.append_assoc]
   rfl
theorem rsplit (a : ByteArray) (c : UInt8) (hs : a.size ≤ 1000000) : Ev (fun k => selfstabref02_Split.f k a (c.toNat : Int)) (spB c a) := by
 obtain ⟨h, t, hsp⟩ := sp_cons c (dl a)
 have := rsplit_l0 a c hs a.size 0 0 [] h t (by omega) (Nat.le_refl _) (by simp) (by simp) (by simpa using hsp)
 refine Pv.as this ?_
 unfold spB
 rw [hsp]
 simp
theorem num_l : ∀ (l : List UInt8) (n : Int), graphtext_number.l l n = numL l n
 | [], n => rfl
 | c :: cs, n => by unfold graphtext_number.l numL; rw [num_l cs]
theorem get_head : ∀ (l : List UInt8) (h : 0 < l.length), l[0] = l.headD 0
 | [], h => absurd h (by simp)
 | _ :: _, _ => rfl
theorem head_bt {a : ByteArray} (h : 0 < a.size) : bt a 0 = (((dl a).headD 0).toNat : Int) := by
 have h2 : 0 < (dl a).length := by rw [dl_len]; exact h
 have := bt_dl h2
 rw [show ((0 : Nat) : Int) = 0 from rfl] at this
 rw [this, get_head]
theorem u48 {x : UInt8} : ((x.toNat : Int) = 48) ↔ x = 48 := ⟨fun h => UInt8.toNat_inj.mp (by show x.toNat = 48; omega), fun h => by rw [h]; rfl⟩
theorem tnumber (a : ByteArray) : graphtext_number.f a = some (numR (dl a)) := by
 unfold graphtext_number.f numR
 rw [dl_len]
 by_cases h1 : (a.size : Int) < 1
 ·rw [if_pos h1, if_pos (by omega)]
 rw [if_neg h1, if_neg (show ¬ a.size < 1 by omega)]
 by_cases h2 : (a.size : Int) > 6
 ·rw [if_pos h2, if_pos (by omega)]
 rw [if_neg h2, if_neg (show ¬ a.size > 6 by omega), head_bt (by omega)]
 by_cases h3 : (dl a).headD 0 = 48 ∧ a.size > 1
 ·rw [if_pos ⟨u48.2 h3.1, by omega⟩, if_pos h3]
 ·rw [if_neg (fun h => h3 ⟨u48.1 h.1, by omega⟩), if_neg h3, num_l]
theorem rnum_l0 (a : ByteArray) (h6 : a.size ≤ 6) : ∀ (n i : Nat) (m : Int), i + n = a.size → 0 ≤ m → m < ((10 ^ i : Nat) : Int) → Ev (fun k => selfstabref02_Number.l0 k a m (i : Int)) (numL ((dl a).drop i) m) := by
 intro n;induction n with
 | zero =>
  intro i m hi h0 h1;rw [List.drop_of_length_le (by rw [dl_len]; omega)]
  exact Ev.step (fun k => by simp only [selfstabref02_Number.l0]; rfl) (Pv.neg (by omega) (Ev.now _))
 | succ n ih =>
  intro i m hi h0 h1;have hlt : i < (dl a).length := by rw [dl_len]; omega
  refine Ev.step (fun k => by simp only [selfstabref02_Number.l0]; rfl) (Pv.pos (by omega) (Pv.pos (by omega) ?_))
  rw [bt_dl hlt, List.drop_eq_getElem_cons hlt]
  unfold numL
  by_cases h2 : (((dl a)[i]).toNat : Int) < 48
  ·rw [if_pos h2]; exact Pv.pos h2 (Ev.now _)
  rw [if_neg h2]
  refine Pv.neg h2 ?_
  by_cases h3 : (((dl a)[i]).toNat : Int) > 57
  ·rw [if_pos h3]; exact Pv.pos h3 (Ev.now _)
  rw [if_neg h3]
  refine Pv.neg h3 ?_
  have h5 : (10 : Nat) ^ i ≤ 10 ^ 5 := Nat.pow_le_pow_right (by omega) (by omega)
  rw [Pv.w64 (x := 10 * m) (by omega) (by omega), Int.emod_eq_of_lt (by omega) (by omega), Pv.w64 (by omega) (by omega), w1 (by omega)]
  exact ih (i + 1) _ (by omega) (by omega) (by rw [Nat.pow_succ]; omega)
theorem rnumber (a : ByteArray) : Ev (fun k => selfstabref02_Number.f k a) (numR (dl a)) := by
 have stop : Ev (fun k => selfstabref02_Number.j0 k a true) (0, false) := Ev.step (fun k => by simp only [selfstabref02_Number.j0]; rfl) (Pv.pos (by trivial) (Ev.now _))
 have go : a.size ≤ 6 → Ev (fun k => selfstabref02_Number.j0 k a false) (numL (dl a) 0) := fun h6 => Ev.step (fun k => by simp only [selfstabref02_Number.j0]; rfl) (Pv.neg (by decide) (rnum_l0 a h6 a.size 0 0 (by omega) (by omega) (by decide)))
 show Ev (fun k => if (a.size : Int) < 1 then _ else _) _
 unfold numR
 rw [dl_len]
 by_cases h1 : (a.size : Int) < 1
 ·rw [if_pos (by omega)]; exact Pv.pos h1 stop
 rw [if_neg (show ¬ a.size < 1 by omega)]
 refine Pv.neg h1 ?_
 by_cases h2 : (a.size : Int) > 6
 ·rw [if_pos (by omega)]; exact Pv.pos h2 stop
 rw [if_neg (show ¬ a.size > 6 by omega)]
 refine Pv.neg h2 ?_
 by_cases h3 : (a.size : Int) > 1
 ·refine Pv.pos h3 (Pv.pos (by omega) ?_)
  rw [head_bt (by omega)]
  by_cases h4 : (dl a).headD 0 = 48
  ·rw [if_pos ⟨h4, by omega⟩, h4]; exact stop
  ·rw [if_neg (fun h => h4 h.1), beq_eq_false_iff_ne.2 (fun h => h4 (u48.1 h))]; exact go (by omega)
 ·rw [if_neg (fun h => h3 (by omega))]
  exact Pv.neg h3 (go (by omega))
def linkR (s : List UInt8) : Option S41 := match sp 47 s with
 | [p, q] => if (numR p).2 = true then (if (numR q).2 = true then some ⟨(numR p).1, (numR q).1⟩ else none) else none
 | _ => none
def linksR : List (List UInt8) → List S41 → Option (List S41)
 | [], out => some out
 | s :: r, out => match linkR s with
  | some l => linksR r (out ++ [l])
  | none => none
def lineR (s : List UInt8) : Int × List S41 × Bool := match sp 32 s with
 | w :: x :: r => if w = [110, 111, 100, 101] then (if (numR x).2 = true then (match linksR r [] with | some ps => ((numR x).1, ps, true) | none => (0, [], false)) else (0, [], false)) else (0, [], false)
 | _ => (0, [], false)
theorem linksR_len : ∀ (r : List (List UInt8)) (out ps : List S41), linksR r out = some ps → ps.length = out.length + r.length
 | [], out, ps, h => by simp only [linksR, Option.some.injEq] at h; subst h; rfl
 | s :: r, out, ps, h => by
  unfold linksR at h
  split at h
  ·rw [linksR_len r _ ps h, List.length_append, List.length_cons]; simp; omega
  ·cases h
theorem rdB {l : List ByteArray} {i : Nat} (h : i < l.length) : rdOf ByteArray.empty l (i : Int) = l[i] := by
 unfold rdOf; rw [Int.toNat_natCast, List.getD_eq_getElem?_getD, List.getElem?_eq_getElem h]; rfl
theorem cut_eq {a : ByteArray} (h : a.size ≤ 1000000) : strings_Cut.f a ⟨#[47]⟩ = some (ba (Lib.cut (dl a) [47]).1, ba (Lib.cut (dl a) [47]).2.1, (Lib.cut (dl a) [47]).2.2) := by
 unfold strings_Cut.f; rw [if_pos (by omega)]; rfl
theorem sp_mem_of_tail {c : UInt8} {l h : List UInt8} {u : List UInt8} {t : List (List UInt8)} (hs : sp c l = h :: u :: t) : c ∈ l := by
 refine Classical.byContradiction fun hn => ?_
 rw [sp_none hn] at hs
 simp at hs
theorem tlink {β : Type} (s : List UInt8) (hs : s.length ≤ 1000000) (yes : Nat → S41 → Option β) (no : β) {r : β} (hr : match linkR s with | some l => Ev (fun k => yes k l) r | none => r = no) :
  Ev (fun k => (strings_Cut.f (ba s) ⟨#[47]⟩).bind fun bt115 => ((graphtext_number.f bt115.1).bind fun bt118 => ((graphtext_number.f bt115.2.1).bind fun bt120 => (if bt115.2.2 = true then (if bt118.2 = true then (if bt120.2 = true then yes k ⟨bt118.1, bt120.1⟩ else some no) else some no) else some no)))) r := by
 refine Pv.const_bind (cut_eq (by rw [ba_size]; exact hs)) (Pv.const_bind (tnumber _) (Pv.const_bind (tnumber _) ?_))
 simp only [ba_data];obtain ⟨h, t, hsp⟩ := sp_cons 47 s
 rcases cut_sp 47 s h t hsp with ⟨rfl, hc⟩ | ⟨q, hc, hq⟩
 ·rw [hc]
  unfold linkR at hr
  rw [hsp] at hr
  exact Pv.neg Bool.false_ne_true (Pv.as (Ev.now _) hr.symm)
 ·rw [hc]
  refine Pv.pos rfl ?_
  cases t with
  | nil => exact absurd hq (sp_ne 47 q)
  | cons u t =>
   unfold linkR at hr
   rw [hsp] at hr
   cases t with
   | nil =>
    have hqu := sp_single q u hq
    subst hqu;simp only at hr
    by_cases h1 : (numR h).2 = true
    ·rw [if_pos h1] at hr
     refine Pv.pos h1 ?_
     by_cases h2 : (numR q).2 = true
     ·rw [if_pos h2] at hr
      exact Pv.pos h2 hr
     ·rw [if_neg h2] at hr
      exact Pv.neg h2 (Pv.as (Ev.now _) hr.symm)
    ·rw [if_neg h1] at hr
     exact Pv.neg h1 (Pv.as (Ev.now _) hr.symm)
   | cons z t =>
    have hm := sp_mem_of_tail hq
    simp only at hr
    by_cases h1 : (numR h).2 = true
    ·refine Pv.pos h1 (Pv.neg ?_ (Pv.as (Ev.now _) hr.symm))
     rw [numR_slash hm]; decide
    ·exact Pv.neg h1 (Pv.as (Ev.now _) hr.symm)
theorem tline_l0 (ws : List (List UInt8)) (hw : ∀ s ∈ ws, s.length ≤ 1000000) (hl : ws.length ≤ 1000000) (id : Int) : ∀ (n i : Nat) (out : List S41), i + n = ws.length → out.length ≤ i →
  Ev (fun k => graphtext_line.l0 k id out (ws.map ba) ((ws.map ba).length : Int) (i : Int)) (match linksR (ws.drop i) out with | some ps => (id, ps, true) | none => (0, [], false)) := by
 intro n;induction n with
 | zero =>
  intro i out hi ho;rw [List.drop_of_length_le (by omega)]
  exact Ev.step (fun k => by simp only [graphtext_line.l0]; rfl) (Pv.neg (by rw [List.length_map]; omega) (Ev.now _))
 | succ n ih =>
  intro i out hi ho;have hlt : i < ws.length := by omega
  have hlt2 : i < (ws.map ba).length := by rw [List.length_map]; exact hlt
  refine Ev.step (fun k => by simp only [graphtext_line.l0]; rfl) (Pv.pos (by omega) (Pv.pos (by omega) (Pv.pos (by omega) ?_)))
  rw [rdB hlt2, List.getElem_map, w1 (by omega), List.drop_eq_getElem_cons hlt]
  refine tlink ws[i] (hw _ (List.getElem_mem hlt)) (fun k l => if out.length < 8796093022208 then (graphtext_line.l0 k id (out ++ [l]) (ws.map ba) ((ws.map ba).length : Int) ((i + 1 : Nat) : Int)) else none) (0, [], false) ?_
  unfold linksR
  cases hk : linkR ws[i] with
  | none => rfl
  | some l => exact Pv.pos (by omega) (ih (i + 1) (out ++ [l]) (by omega) (by rw [List.length_append]; simp; omega))
theorem node_eq (a : List UInt8) : (ba a).toList = ([110, 111, 100, 101] : List UInt8) ↔ a = [110, 111, 100, 101] := by rw [toList_dl]; show (ba a).data.toList = _ ↔ _; rw [ba_data]
theorem tline (a : ByteArray) (h : a.size ≤ 100000) : Ev (fun k => graphtext_line.f k a) (lineR (dl a)) := by
 refine Pv.const_bind (tsplit a 32 (by omega)) ?_
 have hlen := sp_len 32 (dl a)
 rw [dl_len] at hlen
 have hmem : ∀ p ∈ sp 32 (dl a), p.length ≤ 1000000 := fun p hp => by have := sp_mem_len 32 (dl a) p hp; rw [dl_len] at this; omega
 unfold spB lineR
 have stop : ∀ t, Ev (fun k => graphtext_line.j0 k ([] : List S41) t true) (0, [], false) := fun t => Ev.step (fun k => by simp only [graphtext_line.j0]; rfl) (Pv.pos (by trivial) (Ev.now _))
 match hsp : sp 32 (dl a) with
 | [] => exact absurd hsp (sp_ne 32 _)
 | [w] => exact Pv.pos (by simp) (stop _)
 | w :: x :: r =>
  rw [hsp] at hlen hmem
  refine Pv.neg (by simp; omega) (Pv.pos (by simp; omega) ?_)
  have e0 : rdOf ByteArray.empty ((w :: x :: r).map ba) 0 = ba w := rfl
  rw [e0]
  by_cases hw : w = [110, 111, 100, 101]
  ·have e1 : ((ba w).toList != ([110, 111, 100, 101] : List UInt8)) = false := bne_eq_false_iff_eq.2 ((node_eq w).2 hw)
   rw [e1]
   simp only
   rw [if_pos hw]
   refine Ev.step (fun k => by simp only [graphtext_line.j0]; rfl) (Pv.neg (by decide) (Pv.pos (by simp; omega) ?_))
   have e2 : rdOf ByteArray.empty ((w :: x :: r).map ba) 1 = ba x := rfl
   rw [e2]
   refine Pv.const_bind (tnumber _) ?_
   simp only [ba_data];by_cases hx : (numR x).2 = true
   ·rw [if_pos hx]
    refine Pv.pos hx (Pv.pos (by simp; omega) (Pv.some_bind ?_))
    have := tline_l0 r (fun s hs => hmem s (by simp [hs])) (by simp at hlen; omega) (numR x).1 r.length 0 [] (by omega) (by simp)
    exact this
   ·rw [if_neg hx]
    exact Pv.neg hx (Ev.now _)
  ·have e1 : ((ba w).toList != ([110, 111, 100, 101] : List UInt8)) = true := bne_iff_ne.2 (fun h => hw ((node_eq w).1 h))
   rw [e1]
   simp only
   rw [if_neg hw]
   exact stop _
theorem rline_l0 (ws : List (List UInt8)) (hw : ∀ s ∈ ws, s.length ≤ 1000000) (hl : ws.length ≤ 1000000) (id : Int) : ∀ (n i : Nat) (out : List S41), i + n = ws.length → out.length ≤ i →
  Ev (fun k => selfstabref02_node.l0 k (ws.map ba) id out (i : Int)) (match linksR (ws.drop i) out with | some ps => (id, ps, true) | none => (0, [], false)) := by
 intro n;induction n with
 | zero =>
  intro i out hi ho;rw [List.drop_of_length_le (by omega)]
  exact Ev.step (fun k => by simp only [selfstabref02_node.l0]; rfl) (Pv.neg (by rw [List.length_map]; omega) (Ev.now _))
 | succ n ih =>
  intro i out hi ho;have hlt : i < ws.length := by omega
  have hlt2 : i < (ws.map ba).length := by rw [List.length_map]; exact hlt
  refine Ev.step (fun k => by simp only [selfstabref02_node.l0]; rfl) (Pv.pos (by omega) (Pv.pos (by omega) ?_))
  rw [rdB hlt2, List.getElem_map, w1 (by omega), List.drop_eq_getElem_cons hlt]
  refine Ev.bind (rsplit (ba ws[i]) 47 (by rw [ba_size]; exact hw _ (List.getElem_mem hlt))) ?_
  unfold linksR linkR spB
  show Ev (fun k => if (((sp 47 (ba ws[i]).data.toList).map ba).length : Int) = 2 then _ else _) _
  rw [ba_data]
  match hsp : sp 47 ws[i] with
  | [] => exact absurd hsp (sp_ne 47 _)
  | [p] => exact Pv.neg (by simp) (Ev.now _)
  | [p, q] =>
   refine Pv.pos (by simp) (Pv.pos (by simp) ?_)
   have e0 : rdOf ByteArray.empty ([p, q].map ba) 0 = ba p := rfl
   have e1 : rdOf ByteArray.empty ([p, q].map ba) 1 = ba q := rfl
   rw [e0, e1]
   refine Ev.bind (rnumber _) (Pv.pos (by simp) (Ev.bind (rnumber _) ?_))
   show Ev (fun k => if (numR (ba p).data.toList).2 = true then (if (numR (ba q).data.toList).2 = true then (if out.length < 8796093022208 then (selfstabref02_node.l0 k (ws.map ba) id (out ++ [(⟨(numR (ba p).data.toList).1, (numR (ba q).data.toList).1⟩ : S41)]) ((i + 1 : Nat) : Int)) else none) else some (0, [], false)) else some (0, [], false)) _
   rw [ba_data, ba_data]
   by_cases h1 : (numR p).2 = true
   ·refine Pv.pos h1 ?_
    by_cases h2 : (numR q).2 = true
    ·refine Pv.pos h2 (Pv.pos (by omega) ?_)
     simp only [h1, h2, if_true];exact ih (i + 1) _ (by omega) (by rw [List.length_append]; simp; omega)
    ·have e : (numR q).2 = false := Bool.eq_false_iff.2 h2
     simp only [h1, e, if_true];exact Pv.neg Bool.false_ne_true (Ev.now _)
   ·have e : (numR p).2 = false := Bool.eq_false_iff.2 h1
    simp only [e];exact Pv.neg Bool.false_ne_true (Ev.now _)
  | p :: q :: z :: t => exact Pv.neg (by simp; omega) (Ev.now _)
theorem rline (a : ByteArray) (h : a.size ≤ 100000) : Ev (fun k => selfstabref02_node.f k a) (lineR (dl a)) := by
 refine Ev.bind (rsplit a 32 (by omega)) ?_
 have hlen := sp_len 32 (dl a)
 rw [dl_len] at hlen
 have hmem : ∀ p ∈ sp 32 (dl a), p.length ≤ 1000000 := fun p hp => by have := sp_mem_len 32 (dl a) p hp; rw [dl_len] at this; omega
 unfold spB lineR
 have stop : ∀ t, Ev (fun k => selfstabref02_node.j0 k t true) (0, [], false) := fun t => Ev.step (fun k => by simp only [selfstabref02_node.j0]; rfl) (Pv.pos (by trivial) (Ev.now _))
 match hsp : sp 32 (dl a) with
 | [] => exact absurd hsp (sp_ne 32 _)
 | [w] => exact Pv.pos (by simp) (stop _)
 | w :: x :: r =>
  rw [hsp] at hlen hmem
  refine Pv.neg (by simp; omega) (Pv.pos (by simp; omega) ?_)
  have e0 : rdOf ByteArray.empty ((w :: x :: r).map ba) 0 = ba w := rfl
  rw [e0]
  by_cases hw : w = [110, 111, 100, 101]
  ·have e1 : ((ba w).toList != ([110, 111, 100, 101] : List UInt8)) = false := bne_eq_false_iff_eq.2 ((node_eq w).2 hw)
   rw [e1]
   simp only
   rw [if_pos hw]
   refine Ev.step (fun k => by simp only [selfstabref02_node.j0]; rfl) (Pv.neg (by decide) (Pv.pos (by simp; omega) ?_))
   have e2 : rdOf ByteArray.empty ((w :: x :: r).map ba) 1 = ba x := rfl
   rw [e2]
   refine Ev.bind (rnumber _) ?_
   show Ev (fun k => if (numR (ba x).data.toList).2 = true then (selfstabref02_node.l0 k ((w :: x :: r).map ba) (numR (ba x).data.toList).1 [] 2) else some (0, [], false)) _
   rw [ba_data]
   by_cases hx : (numR x).2 = true
   ·rw [if_pos hx]
    refine Pv.pos hx ?_
    have := rline_l0 (w :: x :: r) hmem (by omega) (numR x).1 r.length 2 [] (by simp; omega) (by simp)
    exact this
   ·rw [if_neg hx]
    exact Pv.neg hx (Ev.now _)
  ·have e1 : ((ba w).toList != ([110, 111, 100, 101] : List UInt8)) = true := bne_iff_ne.2 (fun h => hw ((node_eq w).1 h))
   rw [e1]
   simp only
   rw [if_neg hw]
   exact stop _
end Go.Proofs.YtinfejpkjddbiaaDoor.Fn02
