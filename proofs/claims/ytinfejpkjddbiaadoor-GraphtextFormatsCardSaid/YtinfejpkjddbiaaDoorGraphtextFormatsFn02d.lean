/- Part of the proof of the law GraphtextFormats: Fn02d. -/
import Derived.Test.YtinfejpkjddbiaaDoorGraphtextFormatsFn02c
import Derived.Test.YtinfejpkjddbiaaDoorGraphtextFormatsP8
import Derived.Test.YtinfejpkjddbiaaDoorGraphtextFormatsP5
namespace Go.Proofs.YtinfejpkjddbiaaDoor.Fn02
open Go.RowKit Go.Proofs.YtinfejpkjddbiaaDoor.P Go.Proofs.YtinfejpkjddbiaaDoorW.PrintWords Go.Proofs.YtinfejpkjddbiaaDoorW.PrintLast Go.Proofs.YtinfejpkjddbiaaDoorW.PrintMore Go.Proofs.YtinfejpkjddbiaaDoor.Fn01 Go.Proofs.YtinfejpkjddbiaaDoor.Math02
set_option linter.unusedVariables false
set_option linter.unusedSimpArgs false
set_option linter.unusedSectionVars false
theorem decimal_all : ∀ n < 256, selfstabref02_Decimal.f 5 ((n : Nat) : Int) = some (ba (dec n)) := by decide +kernel
theorem decimal {x : Int} (h : sm x) : Ev (fun k => selfstabref02_Decimal.f k x) (ba (dec x.toNat)) := by
 have := decimal_all _ (sm_nat h).1
 rw [(sm_nat h).2] at this
 exact Ev.of (fun k => selfstabref02_Decimal.mono _ k) this
theorem ba_app (a b : List UInt8) : ba a ++ ba b = ba (a ++ b) := ba_eq (by
 rw [dl_ba]
 show (ba a ++ ba b).data.toList = _
 rw [ByteArray.data_append, Array.toList_append, ba_data, ba_data])
section
variable (ids : List Int) (ps : List Row) (hs : Small ids ps)
include hs
theorem format_l1 {v : Nat} (hv : v < ps.length) {R : ByteArray × Int} : ∀ (n i : Nat) (s : List UInt8), i + n = (ps[v]).length → s.length ≤ 200 * v + 8 + 8 * i →
  (∀ s2 : List UInt8, s2 = s ++ lksB ((ps[v]).drop i) ++ [10] → s2.length ≤ 200 * (v + 1) → Ev (fun k => selfstabref02_Format.l0 k (ba s2) ((v + 1 : Nat) : Int) ids ps) R) →
  Ev (fun k => selfstabref02_Format.l1 k (ba s) (v : Int) (i : Int) ids ps) R := by
 have hrow := hs.r _ (List.getElem_mem hv)
 have h24 := hs.n2
 intro n;induction n with
 | zero =>
  intro i s hi hl hnext;refine Ev.step (fun k => by simp only [selfstabref02_Format.l1]; rfl) (Pv.pos (by omega) (Pv.pos (by omega) (Pv.neg (by rw [rdR hv]; omega) (Pv.pos (by rw [ba_size]; omega) ?_))))
  have e : (⟨#[10]⟩ : ByteArray) = ba [10] := rfl
  rw [e, ba_app, w1 (by omega)]
  refine hnext _ ?_ (by rw [List.length_append]; simp; omega)
  rw [List.drop_of_length_le (by omega)]
  simp [lksB]
 | succ n ih =>
  intro i s hi hl hnext;have hlt : i < (ps[v]).length := by omega
  have hsm := hrow.2 _ (List.getElem_mem hlt)
  have hk := lkb_len hsm
  refine Ev.step (fun k => by simp only [selfstabref02_Format.l1]; rfl) (Pv.pos (by omega) (Pv.pos (by omega) (Pv.pos (by rw [rdR hv]; omega) (Pv.pos (by omega) ?_))))
  rw [rdR hv, rdL hlt]
  have d1 := dec_len _ (sm_nat hsm.1).1
  have d2 := dec_len _ (sm_nat hsm.2).1
  have e32 : (⟨#[32]⟩ : ByteArray) = ba [32] := rfl
  have e47 : (⟨#[47]⟩ : ByteArray) = ba [47] := rfl
  refine Ev.bind (decimal hsm.1) ?_
  rw [e32, e47]
  simp only [ba_app, ba_size];refine Pv.pos (by omega) (Pv.pos (by simp only [List.length_append, List.length_cons, List.length_nil]; omega) ?_)
  refine Ev.bind (decimal hsm.2) ?_
  simp only [ba_app, ba_size];refine Pv.pos (by simp only [List.length_append, List.length_cons, List.length_nil]; omega) (Pv.pos (by simp only [List.length_append, List.length_cons, List.length_nil]; omega) ?_)
  rw [w1 (by omega)]
  have el : s ++ ([32] ++ dec ((ps[v])[i]).f0.toNat ++ [47] ++ dec ((ps[v])[i]).f1.toNat) = s ++ 32 :: lkb (ps[v])[i] := by unfold lkb; simp
  rw [el]
  refine ih (i + 1) _ (by omega) (by rw [List.length_append, List.length_cons]; omega) (fun s2 h2 h3 => hnext s2 ?_ h3)
  rw [h2, List.drop_eq_getElem_cons hlt]
  show _ = s ++ (32 :: (lkb (ps[v])[i] ++ lksB ((ps[v]).drop (i + 1)))) ++ [10]
  simp
theorem format_l0 : ∀ (n v : Nat) (s : List UInt8), v + n = ps.length → s.length ≤ 200 * v → Ev (fun k => selfstabref02_Format.l0 k (ba s) (v : Int) ids ps) (ba (s ++ textB (nodesB (ids.drop v) (ps.drop v))), 0) := by
 have h24 := hs.n2
 have hlen := hs.len
 intro n;induction n with
 | zero =>
  intro v s hv hl;refine Ev.step (fun k => by simp only [selfstabref02_Format.l0]; rfl) (Pv.neg (by omega) (Pv.as (Ev.now _) ?_))
  rw [List.drop_of_length_le (by omega), List.drop_of_length_le (by omega)]
  simp [nodesB, textB]
 | succ n ih =>
  intro v s hv hl;have hlt : v < ps.length := by omega
  have hlt2 : v < ids.length := by omega
  have hsm := hs.i _ (List.getElem_mem hlt2)
  have d1 := dec_len _ (sm_nat hsm).1
  refine Ev.step (fun k => by simp only [selfstabref02_Format.l0]; rfl) (Pv.pos (by omega) (Pv.pos (by omega) (Pv.pos (by omega) ?_)))
  rw [rdI hlt2]
  refine Ev.bind (decimal hsm) ?_
  have en : (⟨#[110, 111, 100, 101, 32]⟩ : ByteArray) = ba [110, 111, 100, 101, 32] := rfl
  rw [en]
  simp only [ba_app, ba_size];refine Pv.pos (by omega) (Pv.pos (by simp only [List.length_append, List.length_cons, List.length_nil]; omega) ?_)
  refine format_l1 ids ps hs hlt (ps[v]).length 0 _ (by omega) (by simp only [List.length_append, List.length_cons, List.length_nil]; omega) (fun s2 h2 h3 => ?_)
  refine Pv.as (ih (v + 1) s2 (by omega) h3) ?_
  congr 2
  rw [h2, List.drop_eq_getElem_cons hlt, List.drop_eq_getElem_cons hlt2, List.drop_zero]
  show _ = s ++ (nodeB ids[v] ps[v] ++ 10 :: textB (nodesB (ids.drop (v + 1)) (ps.drop (v + 1))))
  unfold nodeB
  simp
end
theorem rformat {ids : List Int} {ps : List Row} (hlr : ∀ r ∈ ps, r.length ≤ 1000000) (h : VG ids ps) : Ev (fun k => selfstabref02_Format.f k ids ps) (ba (textB (nodesB ids ps)), 0) := by
 obtain ⟨b, hb, hp⟩ := rvalid ids ps hlr
 obtain rfl := hp.2 h
 refine Ev.bind hb (Pv.pos (Eq.refl true) ?_)
 exact format_l0 ids ps (small h) ps.length 0 [] (by omega) (by simp)
theorem rformat_not {ids : List Int} {ps : List Row} (hlr : ∀ r ∈ ps, r.length ≤ 1000000) (h : ¬ VG ids ps) : Ev (fun k => selfstabref02_Format.f k ids ps) (ba [], 1) := by
 obtain ⟨b, hb, hp⟩ := rvalid ids ps hlr
 have e : b = false := Bool.eq_false_iff.2 (fun e => h (hp.1 e))
 subst e;exact Ev.bind hb (Pv.neg Bool.false_ne_true (Ev.now _))
theorem light_l0 (ids : List Int) (ps : List Row) (hp : ps.length ≤ 1000000) : ∀ (n v : Nat), v + n = ps.length → (∀ (q : Nat) (hq : q < ps.length), q < v → (ps[q]).length ≤ 30) → ∃ b, Ev (fun k => selfstabmade_LightGraph.l0 k (v : Int) ids ps) b ∧ (b = true → ∀ r ∈ ps, r.length ≤ 30) := by
 intro n;induction n with
 | zero =>
  intro v hv h;refine ⟨true, Ev.step (fun k => by simp only [selfstabmade_LightGraph.l0]; rfl) (Pv.neg (by omega) (Ev.now _)), fun _ r hr => ?_⟩
  obtain ⟨i, hi, rfl⟩ := List.getElem_of_mem hr
  exact h i hi (by omega)
 | succ n ih =>
  intro v hv h;have hlt : v < ps.length := by omega
  by_cases hb : ((ps[v]).length : Int) > 30
  ·exact ⟨false, Ev.step (fun k => by simp only [selfstabmade_LightGraph.l0]; rfl) (Pv.pos (by omega) (Pv.pos (by omega) (Pv.pos (by rw [rdR hlt]; exact hb) (Ev.now _)))), by simp⟩
  ·obtain ⟨b, h1, h2⟩ := ih (v + 1) (by omega) (fun q hq hqv => by
    by_cases e : q = v
    ·subst e; omega
    ·exact h q hq (by omega))
   refine ⟨b, Ev.step (fun k => by simp only [selfstabmade_LightGraph.l0]; rfl) (Pv.pos (by omega) (Pv.pos (by omega) (Pv.neg (by rw [rdR hlt]; exact hb) ?_))), h2⟩
   rw [w1 (by omega)]
   exact h1
theorem light (ids : List Int) (ps : List Row) : ∃ b, Ev (fun k => selfstabmade_LightGraph.f k ids ps) b ∧ (b = true → ids.length ≤ 30 ∧ ps.length ≤ 30 ∧ ∀ r ∈ ps, r.length ≤ 30) := by
 have no : Ev (fun k => selfstabmade_LightGraph.j0 k true ids ps) false := Ev.step (fun k => by simp only [selfstabmade_LightGraph.j0]; rfl) (Pv.pos (Eq.refl true) (Ev.now _))
 by_cases h1 : (ids.length : Int) > 30
 ·exact ⟨false, Pv.pos h1 no, by simp⟩
 by_cases h2 : (ps.length : Int) > 30
 ·refine ⟨false, Pv.neg h1 ?_, by simp⟩
  rw [decide_eq_true h2]; exact no
 obtain ⟨b, hb, hp⟩ := light_l0 ids ps (by omega) ps.length 0 (by omega) (fun q hq h => by omega)
 refine ⟨b, Pv.neg h1 ?_, fun e => ⟨by omega, by omega, hp e⟩⟩
 rw [decide_eq_false h2]
 exact Ev.step (fun k => by simp only [selfstabmade_LightGraph.j0]; rfl) (Pv.neg Bool.false_ne_true hb)
theorem awake_out : parseR (linesR (dl ⟨#[110, 111, 100, 101, 32, 55, 32, 49, 47, 53, 10, 110, 111, 100, 101, 32, 51, 32, 48, 47, 53, 10]⟩)) 0 [] [] = ([7, 3], [[⟨1, 5⟩], [⟨0, 5⟩]], 0, 0) := by kernel_rfl
theorem awake_ev : Ev (fun k => selfstablaw02_awake.f k) true := by
 have h := tparse ⟨#[110, 111, 100, 101, 32, 55, 32, 49, 47, 53, 10, 110, 111, 100, 101, 32, 51, 32, 48, 47, 53, 10]⟩ (by decide)
 rw [awake_out] at h
 exact Ev.bind h (Pv.pos (by decide) (Pv.pos (by decide) (Pv.pos (by decide) (Pv.pos (by decide) (Pv.pos (by decide) (Pv.pos (by decide) (Pv.pos (by decide) (Pv.pos (by decide) (Pv.pos (by decide) (Ev.now _))))))))))
end Go.Proofs.YtinfejpkjddbiaaDoor.Fn02
