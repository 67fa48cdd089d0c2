/- Scans of short texts, by the relation Lx; the law's guard. -/
import Derived.Test.YtanickojbgceaaaFn04e
import Derived.Test.YtanickojbgceaaaMath04c
namespace Go.Proofs.Ytanickojbgceaaa.Fn04
open Go.RowKit Go.Proofs.Ytanickojbgceaaa.P Go.Proofs.YtanickojbgceaaaW.PrintWords Go.Proofs.YtanickojbgceaaaW.PrintLast Go.Proofs.YtanickojbgceaaaW.PrintMore Go.Proofs.Ytanickojbgceaaa.Math04 Go.Proofs.Ytanickojbgceaaa.Bs
set_option linter.unusedVariables false
set_option linter.unusedSimpArgs false
theorem scan_ok {a : ByteArray} (h : a.size ≤ 4096) {ts : List Tk} (hx : Lx (skipS false (bs a)) ts none) : scanR a = (ts.map (mk a), 0, 0) := by
  have hl := skipS_le false (bs a)
  rw [bs_len] at hl
  unfold scanR
  rw [if_neg (by omega), hx.lex_eq _ 0 (by omega) (by omega)]
  unfold res out
  simp
theorem scan_err {a : ByteArray} (h : a.size ≤ 4096) {ts : List Tk} {q : List Int} {e : Int} (hx : Lx (skipS false (bs a)) ts (some (q, e))) : scanR a = ([], pos a q, e) := by
  have hl := skipS_le false (bs a)
  rw [bs_len] at hl
  unfold scanR
  rw [if_neg (by omega), hx.lex_eq _ 0 (by omega) (by omega)]
  unfold res out
  rw [if_pos (hx.err_ne q e rfl).1]
theorem scan_or {a : ByteArray} (h : a.size ≤ 4096) : (∃ ts, Lx (skipS false (bs a)) ts none ∧ scanR a = (ts.map (mk a), 0, 0)) ∨ (∃ ts q e, Lx (skipS false (bs a)) ts (some (q, e)) ∧ e ≠ 0 ∧ q ≠ [] ∧ scanR a = ([], pos a q, e)) := by
  obtain ⟨ts, o, hx⟩ := Lx.ex _ (skipS false (bs a)) (Nat.le_refl _)
  cases o with
  | none => exact Or.inl ⟨ts, hx, scan_ok h hx⟩
  | some z =>
    obtain ⟨q, e⟩ := z
    exact Or.inr ⟨ts, q, e, hx, (hx.err_ne q e rfl).1, (hx.err_ne q e rfl).2, scan_err h hx⟩
/-- The guard of four laws: either nothing is asked, or the text is short and has tokens. -/
theorem fair (a : ByteArray) : Ev (fun k => selfstablaw04_fair.f k a) false ∨ (a.size ≤ 2000 ∧ Ev (fun k => selfstablaw04_fair.f k a) true ∧ ∃ ts, Lx (skipS false (bs a)) ts none ∧ scanR a = (ts.map (mk a), 0, 0)) := by
  unfold selfstablaw04_fair.f
  by_cases h : (a.size : Int) ≤ 2000
  · rcases scan_or (a := a) (by omega) with ⟨ts, hx, hs⟩ | ⟨ts, q, e, hx, he, _, hs⟩
    · right
      refine ⟨by omega, Ev.bind (rscan a) (Pv.pos h (Pv.as (Ev.now _) ?_)), ts, hx, hs⟩
      rw [hs]; rfl
    · left
      refine Ev.bind (rscan a) (Pv.pos h (Pv.as (Ev.now _) ?_))
      rw [hs]
      exact beqf he
  · exact Or.inl (Ev.bind (rscan a) (Pv.neg h (Ev.now _)))
theorem rd_map {a : ByteArray} {ts : List Tk} {i : Nat} {t : Tk} (h : ts[i]? = some t) : rd_T32 (ts.map (mk a)) (i : Int) = mk a t := by
  obtain ⟨hlt, ht⟩ := List.getElem?_eq_some_iff.mp h
  rw [rdT (by rw [List.length_map]; exact hlt), List.getElem_map, ht]
end Go.Proofs.Ytanickojbgceaaa.Fn04
