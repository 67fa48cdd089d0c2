/- Part of the proof of the law GraphtextTellsGraphsApart: Fn02e. -/
import Derived.Test.YtinfejpkjddbiaaDoorGraphtextTellsGraphsApartFn02d
import Derived.Test.YtinfejpkjddbiaaDoorGraphtextTellsGraphsApartP9
namespace Go.Proofs.YtinfejpkjddbiaaDoor.Fn02
open Go.RowKit Go.Proofs.YtinfejpkjddbiaaDoor.P Go.Proofs.YtinfejpkjddbiaaDoorW.PrintWords Go.Proofs.YtinfejpkjddbiaaDoorW.PrintLast Go.Proofs.YtinfejpkjddbiaaDoorW.PrintMore Go.Proofs.YtinfejpkjddbiaaDoor.Fn01 Go.Proofs.YtinfejpkjddbiaaDoor.Math02
set_option linter.unusedVariables false
set_option linter.unusedSimpArgs false
set_option linter.unusedSectionVars false
theorem itoa_all : ∀ n < 256, Lib.itoa ((n : Nat) : Int) = dec n := by decide +kernel
theorem itoa_dec {x : Int} (h : sm x) : Lib.itoa x = dec x.toNat := by
 have := itoa_all _ (sm_nat h).1
 rw [(sm_nat h).2] at this
 exact this
theorem trow_eq : ∀ (r : Row), (∀ l ∈ r, smL l) → graphtext_Format.row r = lksB r
 | [], h => rfl
 | l :: r, h => by
  have hl := h l (by simp)
  rw [graphtext_Format.row, trow_eq r (fun x hx => h x (by simp [hx])), itoa_dec hl.1, itoa_dec hl.2]
  show _ = 32 :: (lkb l ++ lksB r)
  unfold lkb
  simp
theorem ttext_eq : ∀ (ids : List Int) (ps : List Row), ids.length = ps.length → (∀ x ∈ ids, sm x) → (∀ r ∈ ps, ∀ l ∈ r, smL l) → graphtext_Format.text ids ps = textB (nodesB ids ps)
 | [], [], hl, hi, hr => rfl
 | [], _ :: _, hl, hi, hr => by simp at hl
 | _ :: _, [], hl, hi, hr => by simp at hl
 | x :: ids, r :: ps, hl, hi, hr => by
  rw [graphtext_Format.text, ttext_eq ids ps (by simpa using hl) (fun y hy => hi y (by simp [hy])) (fun y hy => hr y (by simp [hy])), itoa_dec (hi x (by simp)), trow_eq r (hr r (by simp))]
  show _ = nodeB x r ++ 10 :: textB (nodesB ids ps)
  unfold nodeB
  simp
def WfG (ids : List Int) (ps : List Row) : Prop := (∀ x ∈ ids, (Lit.int .i64 x).wf = true) ∧ ∀ r ∈ ps, r.length ≤ 1000000 ∧ ∀ l ∈ r, (Lit.int .i64 l.f0).wf = true ∧ (Lit.int .i64 l.f1).wf = true
theorem tvalid2 {ids : List Int} {ps : List Row} (h : WfG ids ps) : graph_Valid.f ids ps = some (graph_Valid.val ids ps) := by
 unfold graph_Valid.f
 rw [if_pos]
 rw [Bool.and_eq_true, List.all_eq_true, List.all_eq_true]
 refine ⟨h.1, fun r hr => ?_⟩
 rw [Bool.and_eq_true, List.all_eq_true]
 refine ⟨decide_eq_true (h.2 r hr).1, fun l hl => ?_⟩
 rw [Bool.and_eq_true]
 exact (h.2 r hr).2 l hl
theorem tformat {ids : List Int} {ps : List Row} (hw : WfG ids ps) (h : VG ids ps) : graphtext_Format.f ids ps = some (ba (textB (nodesB ids ps)), 0) := by
 have hs := small h
 have h24 := hs.n2
 have ht := ttext_eq ids ps hs.len hs.i (fun r hr => (hs.r r hr).2)
 have htl := text_len (nodesB ids ps) 192 (fun s h => (nodes_size hs s h).1)
 rw [nodes_len hs] at htl
 unfold graphtext_Format.f
 rw [tvalid2 hw, (val_iff ids ps).2 h, Option.bind_some, if_pos rfl, ht, if_pos ⟨hs.len, by omega, by omega⟩]
 rfl
theorem text_size {ids : List Int} {ps : List Row} (h : VG ids ps) : (textB (nodesB ids ps)).length ≤ 5000 ∧ textB (nodesB ids ps) ≠ [] ∧ nodesB ids ps ≠ [] := by
 have hs := small h
 have h24 := hs.n2
 have h1 := hs.n1
 have htl := text_len (nodesB ids ps) 192 (fun s h => (nodes_size hs s h).1)
 have hl := nodes_len hs
 have hne : nodesB ids ps ≠ [] := fun e => by rw [e] at hl; simp at hl; omega
 obtain ⟨l, e⟩ := textB_ends _ hne
 exact ⟨by omega, by rw [e]; simp, hne⟩
theorem text_inj {ids ids2 : List Int} {ps ps2 : List Row} (h : VG ids ps) (h2 : VG ids2 ps2) (e : textB (nodesB ids ps) = textB (nodesB ids2 ps2)) : ids = ids2 ∧ ps = ps2 := by
 have e1 := lines_text (text_size h).2.2 (nodes_no (small h))
 have e2 := lines_text (text_size h2).2.2 (nodes_no (small h2))
 have e3 : nodesB ids ps = nodesB ids2 ps2 := by rw [← e1, ← e2, e]
 have p1 := parseR_graph h
 have p2 := parseR_graph h2
 rw [e3, p2] at p1
 simp only [Prod.mk.injEq] at p1
 exact ⟨p1.1.symm, p1.2.1.symm⟩
section
variable (ids : List Int) (ps : List Row) (ids2 : List Int) (ps2 : List Row) (hi : ids.length ≤ 1000000) (hp : ps.length ≤ 1000000) (hr : ∀ r ∈ ps, r.length ≤ 1000000) (hil : ids.length = ids2.length) (hpl : ps.length = ps2.length)
include hi hp hr hil hpl
theorem eqs_l2 {i : Nat} (h1 : i < ps.length) (h2 : i < ps2.length) (hl : (ps[i]).length = (ps2[i]).length) {Q : Prop} (hnext : Says (fun k => selfstabref01_Same.l1 k ((i + 1 : Nat) : Int) ids ps ids2 ps2) Q) : ∀ (n j : Nat), j + n = (ps[i]).length →
  Says (fun k => selfstabref01_Same.l2 k (i : Int) (j : Int) ids ps ids2 ps2) ((∀ (q : Nat) (a : q < (ps[i]).length) (b : q < (ps2[i]).length), j ≤ q → (ps[i])[q] = (ps2[i])[q]) ∧ Q) := by
 have hrl := hr _ (List.getElem_mem h1)
 intro n;induction n with
 | zero =>
  intro j hj;refine Says.step (fun k => by simp only [selfstabref01_Same.l2]; rfl) (Says.pos (by omega) (Says.pos (by omega) (Says.neg (by rw [rdR h1]; omega) ?_)))
  rw [w1 (by omega)]
  exact hnext.iff ⟨fun h => ⟨fun q a b c => by omega, h⟩, fun h => h.2⟩
 | succ n ih =>
  intro j hj;have a1 : j < (ps[i]).length := by omega
  have a2 : j < (ps2[i]).length := by omega
  refine Says.step (fun k => by simp only [selfstabref01_Same.l2]; rfl) (Says.pos (by omega) (Says.pos (by omega) (Says.pos (by rw [rdR h1]; omega) (Says.pos (by omega) (Says.pos (by omega) (Says.pos (by rw [rdR h2]; omega) ?_))))))
  rw [rdR h1, rdR h2, rdL a1, rdL a2]
  by_cases e : (ps[i])[j] = (ps2[i])[j]
  ·refine Says.neg (by rw [e]; simp) ?_
   rw [w1 (by omega)]
   refine (ih (j + 1) (by omega)).iff ⟨fun h => ⟨fun q a b c => ?_, h.2⟩, fun h => ⟨fun q a b c => h.1 q a b (by omega), h.2⟩⟩
   by_cases hq : q = j
   ·subst hq; exact e
   ·exact h.1 q a b (by omega)
  ·refine Says.pos ?_ (Says.no (fun h => e (h.1 j a1 a2 (Nat.le_refl _))))
   cases hx : (ps[i])[j] with
   | mk x0 x1 =>
    cases hy : (ps2[i])[j] with
    | mk y0 y1 =>
     rw [hx, hy] at e
     by_cases e0 : x0 = y0
     ·by_cases e1 : x1 = y1
      ·exact absurd (by rw [e0, e1]) e
      ·simp [e1]
     ·simp [e0]
theorem eqs_l1 : ∀ (n i : Nat), i + n = ps.length → Says (fun k => selfstabref01_Same.l1 k (i : Int) ids ps ids2 ps2) (∀ (q : Nat) (a : q < ps.length) (b : q < ps2.length), i ≤ q → ps[q] = ps2[q]) := by
 intro n;induction n with
 | zero =>
  intro i h;exact Says.step (fun k => by simp only [selfstabref01_Same.l1]; rfl) (Says.neg (by omega) (Says.yes (fun q a b c => by omega)))
 | succ n ih =>
  intro i h;have h1 : i < ps.length := by omega
  have h2 : i < ps2.length := by omega
  refine Says.step (fun k => by simp only [selfstabref01_Same.l1]; rfl) (Says.pos (by omega) (Says.pos (by omega) (Says.pos (by omega) ?_)))
  rw [rdR h1, rdR h2]
  by_cases hl : ((ps[i]).length : Int) = ((ps2[i]).length : Int)
  ·refine Says.pos hl ?_
   have hl2 : (ps[i]).length = (ps2[i]).length := by omega
   refine (eqs_l2 ids ps ids2 ps2 hi hp hr hil hpl h1 h2 hl2 (ih (i + 1) (by omega)) (ps[i]).length 0 (by omega)).iff ⟨fun hh q a b c => ?_, fun hh => ⟨fun q a b _ => ?_, fun q a b c => hh q a b (by omega)⟩⟩
   ·by_cases hq : q = i
    ·subst hq;exact List.ext_getElem hl2 (fun j a1 a2 => hh.1 j a1 a2 (by omega))
    ·exact hh.2 q a b (by omega)
   ·have e := hh i h1 h2 (Nat.le_refl _)
    simp only [e]
  ·exact Says.neg hl (Says.no (fun hh => hl (by rw [hh i h1 h2 (Nat.le_refl _)])))
theorem eqs_l0 : ∀ (n i : Nat), i + n = ids.length → Says (fun k => selfstabref01_Same.l0 k (i : Int) ids ps ids2 ps2) ((∀ (q : Nat) (a : q < ids.length) (b : q < ids2.length), i ≤ q → ids[q] = ids2[q]) ∧ ps = ps2) := by
 intro n;induction n with
 | zero =>
  intro i h;refine Says.step (fun k => by simp only [selfstabref01_Same.l0]; rfl) (Says.neg (by omega) ?_)
  refine (eqs_l1 ids ps ids2 ps2 hi hp hr hil hpl ps.length 0 (by omega)).iff ⟨fun hh => ⟨fun q a b c => by omega, List.ext_getElem hpl (fun j a b => hh j a b (by omega))⟩, fun hh q a b c => ?_⟩
  obtain ⟨_, rfl⟩ := hh
  rfl
 | succ n ih =>
  intro i h;have h1 : i < ids.length := by omega
  have h2 : i < ids2.length := by omega
  refine Says.step (fun k => by simp only [selfstabref01_Same.l0]; rfl) (Says.pos (by omega) (Says.pos (by omega) (Says.pos (by omega) ?_)))
  rw [rdI h1, rdI h2]
  by_cases e : ids[i] = ids2[i]
  ·refine Says.pos e ?_
   rw [w1 (by omega)]
   refine (ih (i + 1) (by omega)).iff ⟨fun hh => ⟨fun q a b c => ?_, hh.2⟩, fun hh => ⟨fun q a b c => hh.1 q a b (by omega), hh.2⟩⟩
   by_cases hq : q = i
   ·subst hq; exact e
   ·exact hh.1 q a b (by omega)
  ·exact Says.neg e (Says.no (fun hh => e (hh.1 i h1 h2 (Nat.le_refl _))))
end
theorem same_says (ids : List Int) (ps : List Row) (ids2 : List Int) (ps2 : List Row) (hi : ids.length ≤ 1000000) (hp : ps.length ≤ 1000000) (hr : ∀ r ∈ ps, r.length ≤ 1000000) : Says (fun k => selfstabref01_Same.f k ids ps ids2 ps2) (ids = ids2 ∧ ps = ps2) := by
 have no : Says (fun k => selfstabref01_Same.j0 k true ids ps ids2 ps2) False := Says.step (fun k => by simp only [selfstabref01_Same.j0]; rfl) (Says.pos (Eq.refl true) (Says.no (by simp)))
 by_cases h1 : (ids.length : Int) = (ids2.length : Int)
 ·refine Says.pos h1 ?_
  by_cases h2 : (ps.length : Int) = (ps2.length : Int)
  ·have e : ((ps.length : Int) != (ps2.length : Int)) = false := by rw [h2]; simp
   rw [e]
   refine Says.step (fun k => by simp only [selfstabref01_Same.j0]; rfl) (Says.neg Bool.false_ne_true ?_)
   refine (eqs_l0 ids ps ids2 ps2 hi hp hr (by omega) (by omega) ids.length 0 (by omega)).iff ⟨fun hh => ⟨List.ext_getElem (by omega) (fun j a b => hh.1 j a b (by omega)), hh.2⟩, fun hh => ⟨fun q a b c => ?_, hh.2⟩⟩
   obtain ⟨rfl, _⟩ := hh
   rfl
  ·have e : ((ps.length : Int) != (ps2.length : Int)) = true := bne_iff_ne.2 h2
   rw [e]
   exact no.iff ⟨fun h => h.elim, fun hh => h2 (by rw [hh.2])⟩
 ·exact Says.neg h1 (no.iff ⟨fun h => h.elim, fun hh => h1 (by rw [hh.1])⟩)
end Go.Proofs.YtinfejpkjddbiaaDoor.Fn02
