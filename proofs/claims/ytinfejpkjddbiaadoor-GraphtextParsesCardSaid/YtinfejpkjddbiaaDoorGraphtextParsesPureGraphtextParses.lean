/- Part of the proof of the law GraphtextParses: PureGraphtextParses. -/
import Derived.Test.YtinfejpkjddbiaaDoorGraphtextParsesP11
import Derived.Test.YtinfejpkjddbiaaDoorGraphtextParsesFn02b
namespace Go.Proofs.YtinfejpkjddbiaaDoor.Pure
open Go.RowKit Go.Proofs.YtinfejpkjddbiaaDoor.P Go.Proofs.YtinfejpkjddbiaaDoorW.PrintWords Go.Proofs.YtinfejpkjddbiaaDoorW.PrintLast Go.Proofs.YtinfejpkjddbiaaDoor.Fn01 Go.Proofs.YtinfejpkjddbiaaDoor.Fn02 Go.Proofs.YtinfejpkjddbiaaDoor.Math02
theorem awake_out : parseR (linesR (dl ⟨#[110, 111, 100, 101, 32, 55, 32, 49, 47, 53, 10, 110, 111, 100, 101, 32, 51, 32, 48, 47, 53, 10]⟩)) 0 [] [] = ([7, 3], [[⟨1, 5⟩], [⟨0, 5⟩]], 0, 0) := by kernel_rfl
theorem awake_ev : Ev (fun k => selfstablaw02_awake.f k) true := by
 have h := tparse ⟨#[110, 111, 100, 101, 32, 55, 32, 49, 47, 53, 10, 110, 111, 100, 101, 32, 51, 32, 48, 47, 53, 10]⟩ (by decide)
 rw [awake_out] at h
 exact Ev.bind h (Pv.pos (by decide) (Pv.pos (by decide) (Pv.pos (by decide) (Pv.pos (by decide) (Pv.pos (by decide) (Pv.pos (by decide) (Pv.pos (by decide) (Pv.pos (by decide) (Pv.pos (by decide) (Ev.now _))))))))))
theorem GraphtextParses : ∀ (a0 : ByteArray), a0.size ≤ maxLen → ∃ k, selfstablaw02_GraphtextParses.f k a0 = some true := by
 intro a0 hsz;have heavy : Ev (fun k => selfstablaw02_GraphtextParses.j0 k a0 true) true := Ev.step (fun k => by simp only [selfstablaw02_GraphtextParses.j0]; rfl) (Pv.pos (Eq.refl true) (Ev.bind awake_ev (Ev.now _)))
 have both : ∀ o : Out, o.1.length ≤ 1000000 → o.2.1.length ≤ 1000000 → (∀ r ∈ o.2.1, r.length ≤ 1000000) → Ev (fun k => graphtext_Parse.f k a0) o → Ev (fun k => selfstabref02_Parse.f k a0) o → Ev (fun k => selfstablaw02_GraphtextParses.j0 k a0 false) true := by
  intro o h1 h2 h3 ht hr;refine Ev.step (fun k => by simp only [selfstablaw02_GraphtextParses.j0]; rfl) (Pv.neg Bool.false_ne_true ?_)
  refine Ev.bind ht ?_
  refine Ev.bind hr ?_
  refine Ev.bind awake_ev ?_
  refine Pv.pos (Eq.refl true) ?_
  refine Ev.bind (same_refl o.1 o.2.1 h1 h2 h3) ?_
  refine Pv.pos (Eq.refl true) ?_
  refine Pv.pos (Eq.refl o.2.2.1) ?_
  exact Pv.as (Ev.now _) (beq_self_eq_true o.2.2.2)
 have light : a0.size ≤ 16384 → Ev (fun k => selfstablaw02_GraphtextParses.j0 k a0 false) true := by
  intro h;obtain ⟨hl1, hl2⟩ := linesR_len (dl a0)
  rw [dl_len] at hl1 hl2
  obtain ⟨h1, h2, h3⟩ := parseR_len (linesR (dl a0)) 0 [] [] (fun s hs => by have := hl2 s hs; omega) Inv.nil rfl (by simp; omega)
  exact both _ h2 (by omega) (fun r hr => (h3.r r hr).1) (tparse a0 h) (rparse a0 h)
 have long : 16384 < a0.size → Ev (fun k => selfstablaw02_GraphtextParses.j0 k a0 false) true := by
  intro h;exact both ([], [], 0, 3) (by simp) (by simp) (by simp) (Pv.pos (by omega) (Ev.now _)) (Pv.pos (by omega) (Ev.now _))
 refine Ev.rounds (g := fun k => selfstablaw02_GraphtextParses.f k a0) ?_
 by_cases h1 : (a0.size : Int) > 2000
 ·refine Pv.pos h1 ?_
  by_cases h2 : (a0.size : Int) ≤ 16384
  ·exact Pv.pos h2 heavy
  ·refine Pv.neg h2 ?_
   by_cases h3 : (a0.size : Int) > 16484
   ·rw [decide_eq_true h3]; exact heavy
   ·rw [decide_eq_false h3]; exact long (by omega)
 ·exact Pv.neg h1 (light (by omega))
end Go.Proofs.YtinfejpkjddbiaaDoor.Pure
