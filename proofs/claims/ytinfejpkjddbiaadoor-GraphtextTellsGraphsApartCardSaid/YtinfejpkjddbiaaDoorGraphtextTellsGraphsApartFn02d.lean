/- Part of the proof of the law GraphtextTellsGraphsApart: Fn02d. -/
import Derived.Test.YtinfejpkjddbiaaDoorGraphtextTellsGraphsApartFn02c
import Derived.Test.YtinfejpkjddbiaaDoorGraphtextTellsGraphsApartP0
import Derived.Test.YtinfejpkjddbiaaDoorGraphtextTellsGraphsApartP7
import Derived.Test.YtinfejpkjddbiaaDoorGraphtextTellsGraphsApartP5
namespace Go.Proofs.YtinfejpkjddbiaaDoor.Fn02
open Go.RowKit Go.Proofs.YtinfejpkjddbiaaDoor.P Go.Proofs.YtinfejpkjddbiaaDoorW.PrintWords Go.Proofs.YtinfejpkjddbiaaDoorW.PrintLast Go.Proofs.YtinfejpkjddbiaaDoorW.PrintMore Go.Proofs.YtinfejpkjddbiaaDoor.Fn01 Go.Proofs.YtinfejpkjddbiaaDoor.Math02
set_option linter.unusedVariables false
set_option linter.unusedSimpArgs false
set_option linter.unusedSectionVars false
section
end
theorem light_l0 (ids : List Int) (ps : List Row) (hp : ps.length ≤ 1000000) : ∀ (n v : Nat), v + n = ps.length → (∀ (q : Nat) (hq : q < ps.length), q < v → (ps[q]).length ≤ 30) → ∃ b, Ev (fun k => selfstabmade_LightGraph.l0 k (v : Int) ids ps) b ∧ (b = true → ∀ r ∈ ps, r.length ≤ 30) := by
 intro n;induction n with
 | zero =>
  intro v hv h;refine ⟨true, Ev.step (fun k => by simp only [selfstabmade_LightGraph.l0]; rfl) (Pv.neg (by omega) (Ev.now _)), fun _ r hr => ?_⟩
  obtain ⟨i, hi, rfl⟩ := List.getElem_of_mem hr
  exact h i hi (by omega)
 | succ n ih =>
  intro v hv h;have hlt : v < ps.length := by omega
  by_cases hb : ((ps[v]).length : Int) > 30
  ·exact ⟨false, Ev.step (fun k => by simp only [selfstabmade_LightGraph.l0]; rfl) (Pv.pos (by omega) (Pv.pos (by omega) (Pv.pos (by rw [rdR hlt]; exact hb) (Ev.now _)))), by simp⟩
  ·obtain ⟨b, h1, h2⟩ := ih (v + 1) (by omega) (fun q hq hqv => by
    by_cases e : q = v
    ·subst e; omega
    ·exact h q hq (by omega))
   refine ⟨b, Ev.step (fun k => by simp only [selfstabmade_LightGraph.l0]; rfl) (Pv.pos (by omega) (Pv.pos (by omega) (Pv.neg (by rw [rdR hlt]; exact hb) ?_))), h2⟩
   rw [w1 (by omega)]
   exact h1
theorem light (ids : List Int) (ps : List Row) : ∃ b, Ev (fun k => selfstabmade_LightGraph.f k ids ps) b ∧ (b = true → ids.length ≤ 30 ∧ ps.length ≤ 30 ∧ ∀ r ∈ ps, r.length ≤ 30) := by
 have no : Ev (fun k => selfstabmade_LightGraph.j0 k true ids ps) false := Ev.step (fun k => by simp only [selfstabmade_LightGraph.j0]; rfl) (Pv.pos (Eq.refl true) (Ev.now _))
 by_cases h1 : (ids.length : Int) > 30
 ·exact ⟨false, Pv.pos h1 no, by simp⟩
 by_cases h2 : (ps.length : Int) > 30
 ·refine ⟨false, Pv.neg h1 ?_, by simp⟩
  rw [decide_eq_true h2]; exact no
 obtain ⟨b, hb, hp⟩ := light_l0 ids ps (by omega) ps.length 0 (by omega) (fun q hq h => by omega)
 refine ⟨b, Pv.neg h1 ?_, fun e => ⟨by omega, by omega, hp e⟩⟩
 rw [decide_eq_false h2]
 exact Ev.step (fun k => by simp only [selfstabmade_LightGraph.j0]; rfl) (Pv.neg Bool.false_ne_true hb)
theorem awake_out : parseR (linesR (dl ⟨#[110, 111, 100, 101, 32, 55, 32, 49, 47, 53, 10, 110, 111, 100, 101, 32, 51, 32, 48, 47, 53, 10]⟩)) 0 [] [] = ([7, 3], [[⟨1, 5⟩], [⟨0, 5⟩]], 0, 0) := by kernel_rfl
theorem awake_ev : Ev (fun k => selfstablaw02_awake.f k) true := by
 have h := tparse ⟨#[110, 111, 100, 101, 32, 55, 32, 49, 47, 53, 10, 110, 111, 100, 101, 32, 51, 32, 48, 47, 53, 10]⟩ (by decide)
 rw [awake_out] at h
 exact Ev.bind h (Pv.pos (by decide) (Pv.pos (by decide) (Pv.pos (by decide) (Pv.pos (by decide) (Pv.pos (by decide) (Pv.pos (by decide) (Pv.pos (by decide) (Pv.pos (by decide) (Pv.pos (by decide) (Ev.now _))))))))))
end Go.Proofs.YtinfejpkjddbiaaDoor.Fn02
