/- Part of the proof of the law GraphtextFormats: PureGraphtextFormats. -/
import Derived.Test.YtinfejpkjddbiaaDoorGraphtextFormatsFn02e
import Derived.Test.YtinfejpkjddbiaaDoorGraphtextFormatsK26
namespace Go.Proofs.YtinfejpkjddbiaaDoor.Pure
open Go.RowKit Go.Proofs.YtinfejpkjddbiaaDoor.P Go.Proofs.YtinfejpkjddbiaaDoorW.PrintWords Go.Proofs.YtinfejpkjddbiaaDoorW.PrintLast Go.Proofs.YtinfejpkjddbiaaDoorW.PrintMore Go.Proofs.YtinfejpkjddbiaaDoor.Fn01 Go.Proofs.YtinfejpkjddbiaaDoor.Fn02 Go.Proofs.YtinfejpkjddbiaaDoor.Math02
theorem GraphtextFormats : ∀ (x0 : S26), ((x0.f0.length ≤ maxLen ∧ ∀ y0 ∈ x0.f0, (Lit.int .i64 y0).wf = true) ∧ (x0.f1.length ≤ maxLen ∧ ∀ y0 ∈ x0.f1, (y0.length ≤ maxLen ∧ ∀ y1 ∈ y0, ((Lit.int .i64 y1.f0).wf = true ∧ (Lit.int .i64 y1.f1).wf = true)))) → ∃ k, selfstablaw02_GraphtextFormats.f k x0.f0 x0.f1 = some true := by
 intro x0 hw;obtain ⟨ids, ps⟩ := x0
 show ∃ k, selfstablaw02_GraphtextFormats.f k ids ps = some true
 refine Ev.rounds (g := fun k => selfstablaw02_GraphtextFormats.f k ids ps) ?_
 have aw : Ev (fun k => (selfstablaw02_awake.f k).bind fun t => some t) true := Ev.bind awake_ev (Ev.now _)
 obtain ⟨b, hb, hl⟩ := light ids ps
 refine Ev.bind hb ?_
 cases b with
 | false => exact Pv.neg Bool.false_ne_true aw
 | true =>
 obtain ⟨l1, l2, l3⟩ := hl rfl
 refine Pv.pos (Eq.refl true) ?_
 have hlr : ∀ r ∈ ps, r.length ≤ 1000000 := fun r hr => by have := l3 r hr; omega
 have hwf : WfG ids ps := ⟨hw.1.2, fun r hr => ⟨hlr r hr, (hw.2.2 r hr).2⟩⟩
 have fin : ∀ o : ByteArray × Int, graphtext_Format.f ids ps = some o → Ev (fun k => selfstabref02_Format.f k ids ps) o → Ev (fun k => (graphtext_Format.f ids ps).bind fun bt211 => ((selfstabref02_Format.f k ids ps).bind fun bt213 => ((selfstablaw02_awake.f k).bind fun t215 => (if t215 = true then (if bt211.1.toList = bt213.1.toList then (some (bt211.2 == bt213.2)) else (some false)) else (some false))))) true := by
  intro o h1 h2;refine Pv.const_bind h1 ?_
  refine Ev.bind h2 ?_
  refine Ev.bind awake_ev ?_
  refine Pv.pos (Eq.refl true) ?_
  refine Pv.pos (Eq.refl o.1.toList) ?_
  exact Pv.as (Ev.now _) (beq_self_eq_true o.2)
 by_cases hV : VG ids ps
 ·exact fin _ (tformat hwf hV) (rformat hlr hV)
 ·exact fin _ (tformat_not hwf hV) (rformat_not hlr hV)
end Go.Proofs.YtinfejpkjddbiaaDoor.Pure
