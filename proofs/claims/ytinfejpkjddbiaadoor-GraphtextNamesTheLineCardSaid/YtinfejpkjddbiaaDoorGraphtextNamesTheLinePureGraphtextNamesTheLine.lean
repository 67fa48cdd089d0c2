/- Part of the proof of the law GraphtextNamesTheLine: PureGraphtextNamesTheLine. -/
import Derived.Test.YtinfejpkjddbiaaDoorGraphtextNamesTheLineP13
import Derived.Test.YtinfejpkjddbiaaDoorGraphtextNamesTheLineFn02d
import Derived.Test.YtinfejpkjddbiaaDoorGraphtextNamesTheLineK26
namespace Go.Proofs.YtinfejpkjddbiaaDoor.Pure
open Go.RowKit Go.Proofs.YtinfejpkjddbiaaDoor.P Go.Proofs.YtinfejpkjddbiaaDoorW.PrintWords Go.Proofs.YtinfejpkjddbiaaDoorW.PrintLast Go.Proofs.YtinfejpkjddbiaaDoorW.PrintMore Go.Proofs.YtinfejpkjddbiaaDoor.Fn01 Go.Proofs.YtinfejpkjddbiaaDoor.Fn02 Go.Proofs.YtinfejpkjddbiaaDoor.Math02
set_option linter.unusedVariables false
set_option linter.unusedSectionVars false
theorem tmod_gt (a : Int) {b : Int} (hb : 0 < b) : -b < Int.tmod a b := by
 have h1 := Int.tmod_lt_of_pos (-a) hb
 rw [Int.neg_tmod] at h1
 omega
theorem mod_eq (a : Int) (b : Nat) (hb : 0 < b) (hb2 : b ≤ 1000) : ∃ k : Nat, k < b ∧ selfstabmade_Mod.f a (b : Int) = some (k : Int) := by
 have h1 := Int.tmod_lt_of_pos a (show (0 : Int) < b by omega)
 have h2 := tmod_gt a (show (0 : Int) < b by omega)
 unfold selfstabmade_Mod.f
 rw [if_neg (by omega)]
 by_cases h : Int.tmod a b < 0
 ·rw [if_pos h, Pv.w64 (by omega) (by omega)]
  refine ⟨(Int.tmod a b + b).toNat, by omega, ?_⟩
  rw [Int.toNat_of_nonneg (by omega)]
 ·rw [if_neg h]
  refine ⟨(Int.tmod a b).toNat, by omega, ?_⟩
  rw [Int.toNat_of_nonneg (by omega)]
section
variable (ws : List (List UInt8)) (word : List UInt8) (kk : Nat) (hn : ws.length ≤ 24) (hw : ∀ s ∈ ws, s.length ≤ 192) (hword : word.length ≤ 40) (hk : kk ≤ ws.length)
include hn hw hword hk
theorem lines_l1 (hend : ∀ s : List UInt8, s = textB (ws.take kk ++ word :: ws.drop kk) → Ev (fun k => (graphtext_Parse.f k (ba s)).bind fun bt310 => ((selfstablaw02_awake.f k).bind fun t319 => (if t319 = true then (if bt310.2.2.2 = 4 then (some (bt310.2.2.1 == (wrap64 ((kk : Int) + 1)))) else (some false)) else (some false)))) true) :
  ∀ (n i : Nat) (s : List UInt8), i + n = ws.length + 1 → s.length ≤ 300 * i → s = textB (if i ≤ kk then ws.take i else ws.take kk ++ word :: (ws.take i).drop kk) →
  Ev (fun k => selfstablaw02_GraphtextNamesTheLine.l1 k (ba word) (ws.map ba) (kk : Int) (ba s) (i : Int)) true := by
 have e10 : (⟨#[10]⟩ : ByteArray) = ba [10] := rfl
 intro n;induction n with
 | zero =>
  intro i s hi hl hs;refine Ev.step (fun k => by simp only [selfstablaw02_GraphtextNamesTheLine.l1]; rfl) (Pv.neg (by rw [List.length_map]; omega) ?_)
  refine hend s ?_
  have eT : ws.take i = ws := List.take_of_length_le (by omega)
  rw [hs, if_neg (by omega), eT]
 | succ n ih =>
  intro i s hi hl hs;refine Ev.step (fun k => by simp only [selfstablaw02_GraphtextNamesTheLine.l1]; rfl) (Pv.pos (by rw [List.length_map]; omega) ?_)
  rw [e10]
  have htake : i < ws.length → ∀ h : i < ws.length, ws.take (i + 1) = ws.take i ++ [ws[i]] := fun _ h => List.take_succ_eq_append_getElem h
  have hrd : ∀ h : i < ws.length, rdOf ByteArray.empty (ws.map ba) (i : Int) = ba ws[i] := fun h => by rw [rdB (by rw [List.length_map]; exact h), List.getElem_map]
  by_cases hik : i = kk
  ·subst hik;refine Pv.pos rfl ?_
   simp only [ba_app, ba_size];refine Pv.pos (by omega) (Pv.pos (by rw [List.length_append]; simp; omega) ?_)
   rw [if_pos (Nat.le_refl _)] at hs
   by_cases hlt : i < ws.length
   ·have hlen := hw _ (List.getElem_mem hlt)
    refine Pv.pos (by rw [List.length_map]; omega) (Pv.pos (by omega) ?_)
    rw [hrd hlt]
    simp only [ba_app, ba_size];refine Pv.pos (by omega) (Pv.pos (by simp; omega) ?_)
    rw [w1 (by omega)]
    refine ih (i + 1) _ (by omega) (by simp; omega) ?_
    rw [if_neg (by omega), htake hlt hlt, List.drop_append_of_le_length (by rw [List.length_take]; omega), List.drop_of_length_le (by rw [List.length_take]; omega), textB_app, hs]
    simp [textB]
   ·refine Pv.neg (by rw [List.length_map]; omega) ?_
    rw [w1 (by omega)]
    refine ih (i + 1) _ (by omega) (by simp; omega) ?_
    have eT : ws.take (i + 1) = ws := List.take_of_length_le (by omega)
    have eD : ws.drop i = [] := List.drop_of_length_le (by omega)
    rw [if_neg (by omega), eT, eD, textB_app, hs]
    simp [textB]
  ·refine Pv.neg (by omega) ?_
   by_cases hlt : i < ws.length
   ·have hlen := hw _ (List.getElem_mem hlt)
    refine Pv.pos (by rw [List.length_map]; omega) (Pv.pos (by omega) ?_)
    rw [hrd hlt]
    simp only [ba_app, ba_size];refine Pv.pos (by omega) (Pv.pos (by simp; omega) ?_)
    rw [w1 (by omega)]
    refine ih (i + 1) _ (by omega) (by simp; omega) ?_
    by_cases hle : i < kk
    ·rw [if_pos (by omega)] at hs
     rw [if_pos (by omega), htake hlt hlt, textB_app, hs]
     simp [textB]
    ·rw [if_neg (by omega)] at hs
     rw [if_neg (by omega), htake hlt hlt, List.drop_append_of_le_length (by rw [List.length_take]; omega), hs]
     simp [textB, textB_app]
   ·refine Pv.neg (by rw [List.length_map]; omega) ?_
    rw [w1 (by omega)]
    refine ih (i + 1) _ (by omega) (by omega) ?_
    have eT : ws.take (i + 1) = ws := List.take_of_length_le (by omega)
    have eT2 : ws.take i = ws := List.take_of_length_le (by omega)
    rw [if_neg (by omega), eT, hs, if_neg (by omega), eT2]
end
def am (c : UInt8) : Prop := 97 ≤ c.toNat ∧ c.toNat ≤ 109
theorem word_no {w : List UInt8} (h : ∀ c ∈ w, am c) {x : UInt8} (hx : x.toNat < 97) : x ∉ w := fun hm => by have := (h x hm).1; omega
theorem word_bad {w : List UInt8} (h : ∀ c ∈ w, am c) : (lineR w).2.2 ≠ true := by
 unfold lineR
 rw [sp_none (word_no h (by decide))]
 exact Bool.false_ne_true
theorem GraphtextNamesTheLine : ∀ (x0 : S26) (a1 : Int) (a2 : ByteArray), ((x0.f0.length ≤ maxLen ∧ ∀ y0 ∈ x0.f0, (Lit.int .i64 y0).wf = true) ∧ (x0.f1.length ≤ maxLen ∧ ∀ y0 ∈ x0.f1, (y0.length ≤ maxLen ∧ ∀ y1 ∈ y0, ((Lit.int .i64 y1.f0).wf = true ∧ (Lit.int .i64 y1.f1).wf = true)))) → (Lit.int .i64 a1).wf = true → a2.size ≤ maxLen → ∃ k, selfstablaw02_GraphtextNamesTheLine.f k x0.f0 x0.f1 a1 a2 = some true := by
 intro x0 a1 a2 _ _ _;obtain ⟨ids, ps⟩ := x0
 show ∃ k, selfstablaw02_GraphtextNamesTheLine.f k ids ps a1 a2 = some true
 refine Ev.rounds (g := fun k => selfstablaw02_GraphtextNamesTheLine.f k ids ps a1 a2) ?_
 have aw : Ev (fun k => (selfstablaw02_awake.f k).bind fun t => some t) true := Ev.bind awake_ev (Ev.now _)
 have skip : Ev (fun k => selfstablaw02_GraphtextNamesTheLine.j0 k a1 a2 true ids ps) true := Ev.step (fun k => by simp only [selfstablaw02_GraphtextNamesTheLine.j0]; rfl) (Pv.pos (Eq.refl true) aw)
 obtain ⟨b, hb, hl⟩ := light ids ps
 refine Ev.bind hb ?_
 cases b with
 | false => exact Pv.neg Bool.false_ne_true skip
 | true =>
 obtain ⟨l1, l2, l3⟩ := hl rfl
 refine Pv.pos (Eq.refl true) ?_
 have hlr : ∀ r ∈ ps, r.length ≤ 1000000 := fun r hr => by have := l3 r hr; omega
 obtain ⟨b, hb, hv⟩ := rvalid ids ps hlr
 refine Ev.bind hb ?_
 cases b with
 | false => exact Pv.neg Bool.false_ne_true skip
 | true =>
 have hV := hv.1 rfl
 have hS := small hV
 refine Pv.pos (Eq.refl true) ?_
 by_cases h40 : (a2.size : Int) > 40
 ·rw [decide_eq_true h40]; exact skip
 rw [decide_eq_false h40]
 refine Ev.step (fun k => by simp only [selfstablaw02_GraphtextNamesTheLine.j0]; rfl) (Pv.neg Bool.false_ne_true ?_)
 have loop : ∀ (n i : Nat), i + n = a2.size → (∀ (q : Nat) (hq : q < (dl a2).length), q < i → am (dl a2)[q]) → Ev (fun k => selfstablaw02_GraphtextNamesTheLine.l0 k a1 a2 (i : Int) ids ps) true := by
  intro n;induction n with
  | zero =>
   intro i hi hq
   have hword : ∀ c ∈ dl a2, am c := fun c hc => by
    obtain ⟨q, h, rfl⟩ := List.getElem_of_mem hc
    exact hq q h (by rw [dl_len] at h; omega)
   refine Ev.step (fun k => by simp only [selfstablaw02_GraphtextNamesTheLine.l0]; rfl) (Pv.neg (by omega) ?_)
   refine Ev.bind (rformat hlr hV) ?_
   have hne : nodesB ids ps ≠ [] := fun e => by
    have := nodes_len hS
    have := hS.n1
    rw [e] at *
    simp at *
    omega
   have hnl := nodes_len hS
   have h24 := hS.n2
   have htl := text_len (nodesB ids ps) 192 (fun s hs => (nodes_size hS s hs).1)
   have hl := rlines (ba (textB (nodesB ids ps))) (by rw [ba_size]; omega)
   rw [dl_ba, lines_text hne (nodes_no hS), if_neg (by obtain ⟨l, e⟩ := textB_ends _ hne; rw [e]; simp)] at hl
   refine Ev.bind hl ?_
   have e1 : wrap64 ((((nodesB ids ps).map ba).length : Int) + 1) = ((ps.length + 1 : Nat) : Int) := by rw [w1 (by rw [List.length_map]; omega), List.length_map, hnl]
   rw [e1]
   obtain ⟨kk, hk1, hk2⟩ := mod_eq a1 (ps.length + 1) (by omega) (by omega)
   refine Pv.const_bind hk2 ?_
   have ew : a2 = ba (dl a2) := (ba_of a2).symm
   have hwl : (dl a2).length ≤ 40 := by rw [dl_len]; omega
   generalize hwd : dl a2 = word at *
   rw [ew]
   refine lines_l1 (nodesB ids ps) word kk (by omega) (fun s hs => (nodes_size hS s hs).1) hwl (by omega) (fun s hs => ?_) ((nodesB ids ps).length + 1) 0 [] (by omega) (by simp) (by simp [textB])
   have hno : ∀ t ∈ (nodesB ids ps).take kk ++ word :: (nodesB ids ps).drop kk, (10 : UInt8) ∉ t := fun t ht => by
    rcases List.mem_append.1 ht with ht | ht
    ·exact nodes_no hS t (List.mem_of_mem_take ht)
    ·rcases List.mem_cons.1 ht with rfl | ht
     ·exact word_no hword (by decide)
     ·exact nodes_no hS t (List.mem_of_mem_drop ht)
   have hsl : s.length ≤ 16384 := by
    have := text_len ((nodesB ids ps).take kk ++ word :: (nodesB ids ps).drop kk) 192 (fun t ht => by
     rcases List.mem_append.1 ht with ht | ht
     ·exact (nodes_size hS t (List.mem_of_mem_take ht)).1
     ·rcases List.mem_cons.1 ht with rfl | ht
      ·omega
      ·exact (nodes_size hS t (List.mem_of_mem_drop ht)).1)
    rw [hs]
    rw [List.length_append, List.length_cons, List.length_take, List.length_drop] at this
    omega
   have ht := tparse (ba s) (by rw [ba_size]; exact hsl)
   rw [dl_ba, hs, lines_text (by simp) hno, parseR_bad _ _ _ _ _ _ (fun t ht => nodes_ok hS t (List.mem_of_mem_take ht)) (word_bad hword)] at ht
   rw [hs]
   refine Ev.bind ht ?_
   refine Ev.bind awake_ev ?_
   refine Pv.pos (Eq.refl true) ?_
   refine Pv.pos (Eq.refl (4 : Int)) ?_
   refine Pv.as (Ev.now _) ?_
   rw [w1 (by omega), List.length_take, hnl]
   simp
   omega
  | succ n ih =>
   intro i hi hq;have hlt : i < (dl a2).length := by rw [dl_len]; omega
   refine Ev.step (fun k => by simp only [selfstablaw02_GraphtextNamesTheLine.l0]; rfl) (Pv.pos (by omega) (Pv.pos (by omega) ?_))
   rw [bt_dl hlt]
   by_cases h1 : (((dl a2)[i]).toNat : Int) < 97
   ·exact Pv.pos h1 aw
   refine Pv.neg h1 ?_
   by_cases h2 : (((dl a2)[i]).toNat : Int) > 109
   ·exact Pv.pos h2 aw
   refine Pv.neg h2 ?_
   rw [w1 (by omega)]
   refine ih (i + 1) (by omega) (fun q hq1 hq2 => ?_)
   by_cases e : q = i
   ·subst e; exact ⟨by omega, by omega⟩
   ·exact hq q hq1 (by omega)
 exact loop a2.size 0 (by omega) (fun q hq h => by omega)
end Go.Proofs.YtinfejpkjddbiaaDoor.Pure
