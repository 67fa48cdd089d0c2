/- Part of the proof of the law GraphtextTellsGraphsApart: Fn02. -/
import Derived.Test.YtinfejpkjddbiaaDoorGraphtextTellsGraphsApartP4
import Derived.Test.YtinfejpkjddbiaaDoorGraphtextTellsGraphsApartP0
import Derived.Test.YtinfejpkjddbiaaDoorGraphtextTellsGraphsApartP7
import Derived.Test.YtinfejpkjddbiaaDoorGraphtextTellsGraphsApartP5
import Derived.Test.YtinfejpkjddbiaaDoorGraphtextTellsGraphsApartP9
import Derived.Test.YtinfejpkjddbiaaDoorGraphtextTellsGraphsApartP10
import Derived.Test.YtinfejpkjddbiaaDoorGraphtextTellsGraphsApartFn01b
import Derived.Test.YtinfejpkjddbiaaDoorGraphtextTellsGraphsApartMath02
namespace Go.Proofs.YtinfejpkjddbiaaDoor.Fn02
open Go.RowKit Go.Proofs.YtinfejpkjddbiaaDoor.P Go.Proofs.YtinfejpkjddbiaaDoorW.PrintWords Go.Proofs.YtinfejpkjddbiaaDoorW.PrintLast Go.Proofs.YtinfejpkjddbiaaDoorW.PrintMore Go.Proofs.YtinfejpkjddbiaaDoor.Fn01 Go.Proofs.YtinfejpkjddbiaaDoor.Math02
set_option linter.unusedVariables false
set_option linter.unusedSimpArgs false
abbrev dl (a : ByteArray) : List UInt8 := a.data.toList
theorem dl_len (a : ByteArray) : (dl a).length = a.size := by rw [Array.length_toList]; rfl
theorem dl_extract (a : ByteArray) (i j : Nat) : dl (a.extract i j) = ((dl a).drop i).take (j - i) := by
 show (a.extract i j).data.toList = _
 rw [ByteArray.data_extract, Array.toList_extract, List.extract_eq_take_drop]
theorem bt_dl {a : ByteArray} {i : Nat} (h : i < (dl a).length) : bt a (i : Int) = (((dl a)[i]).toNat : Int) := by
 have h2 : i < a.size := by rw [← dl_len]; exact h
 unfold bt
 simp only [Int.toNat_natCast];rw [dif_pos h2]
 rfl
theorem toList_dl (a : ByteArray) : a.toList = dl a := Go.ByteArray.toList_eq a
theorem dl_ba (l : List UInt8) : dl (ba l) = l := ba_data l
theorem ba_eq {a b : ByteArray} (h : dl a = dl b) : a = b := by rw [← ba_of a, ← ba_of b]; exact congrArg ba h
theorem tsplit (a : ByteArray) (c : UInt8) (h : a.size ≤ 1000000) : strings_Split.f a ⟨#[c]⟩ = some (spB c a) := by
 unfold strings_Split.f
 rw [if_pos (by omega), if_pos (by show 1 ≤ 1; omega), splitB_spB]
theorem num_l : ∀ (l : List UInt8) (n : Int), graphtext_number.l l n = numL l n
 | [], n => rfl
 | c :: cs, n => by unfold graphtext_number.l numL; rw [num_l cs]
theorem get_head : ∀ (l : List UInt8) (h : 0 < l.length), l[0] = l.headD 0
 | [], h => absurd h (by simp)
 | _ :: _, _ => rfl
theorem head_bt {a : ByteArray} (h : 0 < a.size) : bt a 0 = (((dl a).headD 0).toNat : Int) := by
 have h2 : 0 < (dl a).length := by rw [dl_len]; exact h
 have := bt_dl h2
 rw [show ((0 : Nat) : Int) = 0 from rfl] at this
 rw [this, get_head]
theorem u48 {x : UInt8} : ((x.toNat : Int) = 48) ↔ x = 48 := ⟨fun h => UInt8.toNat_inj.mp (by show x.toNat = 48; omega), fun h => by rw [h]; rfl⟩
theorem tnumber (a : ByteArray) : graphtext_number.f a = some (numR (dl a)) := by
 unfold graphtext_number.f numR
 rw [dl_len]
 by_cases h1 : (a.size : Int) < 1
 ·rw [if_pos h1, if_pos (by omega)]
 rw [if_neg h1, if_neg (show ¬ a.size < 1 by omega)]
 by_cases h2 : (a.size : Int) > 6
 ·rw [if_pos h2, if_pos (by omega)]
 rw [if_neg h2, if_neg (show ¬ a.size > 6 by omega), head_bt (by omega)]
 by_cases h3 : (dl a).headD 0 = 48 ∧ a.size > 1
 ·rw [if_pos ⟨u48.2 h3.1, by omega⟩, if_pos h3]
 ·rw [if_neg (fun h => h3 ⟨u48.1 h.1, by omega⟩), if_neg h3, num_l]
def linkR (s : List UInt8) : Option S41 := match sp 47 s with
 | [p, q] => if (numR p).2 = true then (if (numR q).2 = true then some ⟨(numR p).1, (numR q).1⟩ else none) else none
 | _ => none
def linksR : List (List UInt8) → List S41 → Option (List S41)
 | [], out => some out
 | s :: r, out => match linkR s with
  | some l => linksR r (out ++ [l])
  | none => none
def lineR (s : List UInt8) : Int × List S41 × Bool := match sp 32 s with
 | w :: x :: r => if w = [110, 111, 100, 101] then (if (numR x).2 = true then (match linksR r [] with | some ps => ((numR x).1, ps, true) | none => (0, [], false)) else (0, [], false)) else (0, [], false)
 | _ => (0, [], false)
theorem linksR_len : ∀ (r : List (List UInt8)) (out ps : List S41), linksR r out = some ps → ps.length = out.length + r.length
 | [], out, ps, h => by simp only [linksR, Option.some.injEq] at h; subst h; rfl
 | s :: r, out, ps, h => by
  unfold linksR at h
  split at h
  ·rw [linksR_len r _ ps h, List.length_append, List.length_cons]; simp; omega
  ·cases h
theorem rdB {l : List ByteArray} {i : Nat} (h : i < l.length) : rdOf ByteArray.empty l (i : Int) = l[i] := by
 unfold rdOf; rw [Int.toNat_natCast, List.getD_eq_getElem?_getD, List.getElem?_eq_getElem h]; rfl
theorem cut_eq {a : ByteArray} (h : a.size ≤ 1000000) : strings_Cut.f a ⟨#[47]⟩ = some (ba (Lib.cut (dl a) [47]).1, ba (Lib.cut (dl a) [47]).2.1, (Lib.cut (dl a) [47]).2.2) := by
 unfold strings_Cut.f; rw [if_pos (by omega)]; rfl
theorem sp_mem_of_tail {c : UInt8} {l h : List UInt8} {u : List UInt8} {t : List (List UInt8)} (hs : sp c l = h :: u :: t) : c ∈ l := by
 refine Classical.byContradiction fun hn => ?_
 rw [sp_none hn] at hs
 simp at hs
theorem tlink {β : Type} (s : List UInt8) (hs : s.length ≤ 1000000) (yes : Nat → S41 → Option β) (no : β) {r : β} (hr : match linkR s with | some l => Ev (fun k => yes k l) r | none => r = no) :
  Ev (fun k => (strings_Cut.f (ba s) ⟨#[47]⟩).bind fun bt115 => ((graphtext_number.f bt115.1).bind fun bt118 => ((graphtext_number.f bt115.2.1).bind fun bt120 => (if bt115.2.2 = true then (if bt118.2 = true then (if bt120.2 = true then yes k ⟨bt118.1, bt120.1⟩ else some no) else some no) else some no)))) r := by
 refine Pv.const_bind (cut_eq (by rw [ba_size]; exact hs)) (Pv.const_bind (tnumber _) (Pv.const_bind (tnumber _) ?_))
 simp only [ba_data];obtain ⟨h, t, hsp⟩ := sp_cons 47 s
 rcases cut_sp 47 s h t hsp with ⟨rfl, hc⟩ | ⟨q, hc, hq⟩
 ·rw [hc]
  unfold linkR at hr
  rw [hsp] at hr
  exact Pv.neg Bool.false_ne_true (Pv.as (Ev.now _) hr.symm)
 ·rw [hc]
  refine Pv.pos rfl ?_
  cases t with
  | nil => exact absurd hq (sp_ne 47 q)
  | cons u t =>
   unfold linkR at hr
   rw [hsp] at hr
   cases t with
   | nil =>
    have hqu := sp_single q u hq
    subst hqu;simp only at hr
    by_cases h1 : (numR h).2 = true
    ·rw [if_pos h1] at hr
     refine Pv.pos h1 ?_
     by_cases h2 : (numR q).2 = true
     ·rw [if_pos h2] at hr
      exact Pv.pos h2 hr
     ·rw [if_neg h2] at hr
      exact Pv.neg h2 (Pv.as (Ev.now _) hr.symm)
    ·rw [if_neg h1] at hr
     exact Pv.neg h1 (Pv.as (Ev.now _) hr.symm)
   | cons z t =>
    have hm := sp_mem_of_tail hq
    simp only at hr
    by_cases h1 : (numR h).2 = true
    ·refine Pv.pos h1 (Pv.neg ?_ (Pv.as (Ev.now _) hr.symm))
     rw [numR_slash hm]; decide
    ·exact Pv.neg h1 (Pv.as (Ev.now _) hr.symm)
theorem tline_l0 (ws : List (List UInt8)) (hw : ∀ s ∈ ws, s.length ≤ 1000000) (hl : ws.length ≤ 1000000) (id : Int) : ∀ (n i : Nat) (out : List S41), i + n = ws.length → out.length ≤ i →
  Ev (fun k => graphtext_line.l0 k id out (ws.map ba) ((ws.map ba).length : Int) (i : Int)) (match linksR (ws.drop i) out with | some ps => (id, ps, true) | none => (0, [], false)) := by
 intro n;induction n with
 | zero =>
  intro i out hi ho;rw [List.drop_of_length_le (by omega)]
  exact Ev.step (fun k => by simp only [graphtext_line.l0]; rfl) (Pv.neg (by rw [List.length_map]; omega) (Ev.now _))
 | succ n ih =>
  intro i out hi ho;have hlt : i < ws.length := by omega
  have hlt2 : i < (ws.map ba).length := by rw [List.length_map]; exact hlt
  refine Ev.step (fun k => by simp only [graphtext_line.l0]; rfl) (Pv.pos (by omega) (Pv.pos (by omega) (Pv.pos (by omega) ?_)))
  rw [rdB hlt2, List.getElem_map, w1 (by omega), List.drop_eq_getElem_cons hlt]
  refine tlink ws[i] (hw _ (List.getElem_mem hlt)) (fun k l => if out.length < 8796093022208 then (graphtext_line.l0 k id (out ++ [l]) (ws.map ba) ((ws.map ba).length : Int) ((i + 1 : Nat) : Int)) else none) (0, [], false) ?_
  unfold linksR
  cases hk : linkR ws[i] with
  | none => rfl
  | some l => exact Pv.pos (by omega) (ih (i + 1) (out ++ [l]) (by omega) (by rw [List.length_append]; simp; omega))
theorem node_eq (a : List UInt8) : (ba a).toList = ([110, 111, 100, 101] : List UInt8) ↔ a = [110, 111, 100, 101] := by rw [toList_dl]; show (ba a).data.toList = _ ↔ _; rw [ba_data]
theorem tline (a : ByteArray) (h : a.size ≤ 100000) : Ev (fun k => graphtext_line.f k a) (lineR (dl a)) := by
 refine Pv.const_bind (tsplit a 32 (by omega)) ?_
 have hlen := sp_len 32 (dl a)
 rw [dl_len] at hlen
 have hmem : ∀ p ∈ sp 32 (dl a), p.length ≤ 1000000 := fun p hp => by have := sp_mem_len 32 (dl a) p hp; rw [dl_len] at this; omega
 unfold spB lineR
 have stop : ∀ t, Ev (fun k => graphtext_line.j0 k ([] : List S41) t true) (0, [], false) := fun t => Ev.step (fun k => by simp only [graphtext_line.j0]; rfl) (Pv.pos (by trivial) (Ev.now _))
 match hsp : sp 32 (dl a) with
 | [] => exact absurd hsp (sp_ne 32 _)
 | [w] => exact Pv.pos (by simp) (stop _)
 | w :: x :: r =>
  rw [hsp] at hlen hmem
  refine Pv.neg (by simp; omega) (Pv.pos (by simp; omega) ?_)
  have e0 : rdOf ByteArray.empty ((w :: x :: r).map ba) 0 = ba w := rfl
  rw [e0]
  by_cases hw : w = [110, 111, 100, 101]
  ·have e1 : ((ba w).toList != ([110, 111, 100, 101] : List UInt8)) = false := bne_eq_false_iff_eq.2 ((node_eq w).2 hw)
   rw [e1]
   simp only
   rw [if_pos hw]
   refine Ev.step (fun k => by simp only [graphtext_line.j0]; rfl) (Pv.neg (by decide) (Pv.pos (by simp; omega) ?_))
   have e2 : rdOf ByteArray.empty ((w :: x :: r).map ba) 1 = ba x := rfl
   rw [e2]
   refine Pv.const_bind (tnumber _) ?_
   simp only [ba_data];by_cases hx : (numR x).2 = true
   ·rw [if_pos hx]
    refine Pv.pos hx (Pv.pos (by simp; omega) (Pv.some_bind ?_))
    have := tline_l0 r (fun s hs => hmem s (by simp [hs])) (by simp at hlen; omega) (numR x).1 r.length 0 [] (by omega) (by simp)
    exact this
   ·rw [if_neg hx]
    exact Pv.neg hx (Ev.now _)
  ·have e1 : ((ba w).toList != ([110, 111, 100, 101] : List UInt8)) = true := bne_iff_ne.2 (fun h => hw ((node_eq w).1 h))
   rw [e1]
   simp only
   rw [if_neg hw]
   exact stop _
end Go.Proofs.YtinfejpkjddbiaaDoor.Fn02
