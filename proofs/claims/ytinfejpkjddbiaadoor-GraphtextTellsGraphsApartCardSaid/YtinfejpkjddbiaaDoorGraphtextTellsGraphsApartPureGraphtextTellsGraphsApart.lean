/- Part of the proof of the law GraphtextTellsGraphsApart: PureGraphtextTellsGraphsApart. -/
import Derived.Test.YtinfejpkjddbiaaDoorGraphtextTellsGraphsApartFn02e
import Derived.Test.YtinfejpkjddbiaaDoorGraphtextTellsGraphsApartK26
import Derived.Test.YtinfejpkjddbiaaDoorGraphtextTellsGraphsApartP14
namespace Go.Proofs.YtinfejpkjddbiaaDoor.Pure
open Go.RowKit Go.Proofs.YtinfejpkjddbiaaDoor.P Go.Proofs.YtinfejpkjddbiaaDoorW.PrintWords Go.Proofs.YtinfejpkjddbiaaDoorW.PrintLast Go.Proofs.YtinfejpkjddbiaaDoorW.PrintMore Go.Proofs.YtinfejpkjddbiaaDoor.Fn01 Go.Proofs.YtinfejpkjddbiaaDoor.Fn02 Go.Proofs.YtinfejpkjddbiaaDoor.Math02
theorem GraphtextTellsGraphsApart : ∀ (x0 : S26) (x1 : S26), ((x0.f0.length ≤ maxLen ∧ ∀ y0 ∈ x0.f0, (Lit.int .i64 y0).wf = true) ∧ (x0.f1.length ≤ maxLen ∧ ∀ y0 ∈ x0.f1, (y0.length ≤ maxLen ∧ ∀ y1 ∈ y0, ((Lit.int .i64 y1.f0).wf = true ∧ (Lit.int .i64 y1.f1).wf = true)))) → ((x1.f0.length ≤ maxLen ∧ ∀ y0 ∈ x1.f0, (Lit.int .i64 y0).wf = true) ∧ (x1.f1.length ≤ maxLen ∧ ∀ y0 ∈ x1.f1, (y0.length ≤ maxLen ∧ ∀ y1 ∈ y0, ((Lit.int .i64 y1.f0).wf = true ∧ (Lit.int .i64 y1.f1).wf = true)))) → ∃ k, selfstablaw02_GraphtextTellsGraphsApart.f k x0.f0 x0.f1 x1.f0 x1.f1 = some true := by
 intro x0 x1 hw hw2;obtain ⟨ids, ps⟩ := x0
 obtain ⟨ids2, ps2⟩ := x1
 show ∃ k, selfstablaw02_GraphtextTellsGraphsApart.f k ids ps ids2 ps2 = some true
 refine Ev.rounds (g := fun k => selfstablaw02_GraphtextTellsGraphsApart.f k ids ps ids2 ps2) ?_
 have skip : Ev (fun k => selfstablaw02_GraphtextTellsGraphsApart.j0 k true ids ps ids2 ps2) true := Ev.step (fun k => by simp only [selfstablaw02_GraphtextTellsGraphsApart.j0]; rfl) (Pv.pos (Eq.refl true) (Ev.bind awake_ev (Ev.now _)))
 obtain ⟨b, hb, hl⟩ := light ids ps
 refine Ev.bind hb ?_
 cases b with
 | false => exact Pv.neg Bool.false_ne_true skip
 | true =>
 obtain ⟨l1, l2, l3⟩ := hl rfl
 refine Pv.pos (Eq.refl true) ?_
 obtain ⟨b, hb, hl⟩ := light ids2 ps2
 refine Ev.bind hb ?_
 cases b with
 | false => exact Pv.neg Bool.false_ne_true skip
 | true =>
 obtain ⟨m1, m2, m3⟩ := hl rfl
 refine Pv.pos (Eq.refl true) ?_
 have hlr : ∀ r ∈ ps, r.length ≤ 1000000 := fun r hr => by have := l3 r hr; omega
 have hlr2 : ∀ r ∈ ps2, r.length ≤ 1000000 := fun r hr => by have := m3 r hr; omega
 have hwf : WfG ids ps := ⟨hw.1.2, fun r hr => ⟨hlr r hr, (hw.2.2 r hr).2⟩⟩
 have hwf2 : WfG ids2 ps2 := ⟨hw2.1.2, fun r hr => ⟨hlr2 r hr, (hw2.2.2 r hr).2⟩⟩
 obtain ⟨c, hc, hv⟩ := rvalid ids ps hlr
 refine Ev.bind hc ?_
 cases c with
 | false => exact Pv.neg Bool.false_ne_true skip
 | true =>
 have hV := hv.1 rfl
 refine Pv.pos (Eq.refl true) ?_
 obtain ⟨c, hc, hv⟩ := rvalid ids2 ps2 hlr2
 refine Ev.bind hc ?_
 cases c with
 | false => exact skip
 | true =>
 have hV2 := hv.1 rfl
 show Ev (fun k => selfstablaw02_GraphtextTellsGraphsApart.j0 k false ids ps ids2 ps2) true
 refine Ev.step (fun k => by simp only [selfstablaw02_GraphtextTellsGraphsApart.j0]; rfl) (Pv.neg Bool.false_ne_true ?_)
 refine Pv.const_bind (tformat hwf hV) ?_
 refine Pv.const_bind (tformat hwf2 hV2) ?_
 refine Ev.bind awake_ev ?_
 refine Pv.pos (Eq.refl true) ?_
 refine Pv.pos (Eq.refl (0 : Int)) ?_
 refine Pv.pos (Eq.refl (0 : Int)) ?_
 obtain ⟨d, hd, hs⟩ := same_says ids ps ids2 ps2 (by omega) (by omega) hlr
 refine Ev.bind hd ?_
 refine Pv.as (Ev.now _) ?_
 rw [beq_iff_eq, Bool.eq_iff_iff, hs]
 rw [beq_iff_eq, toList_dl, toList_dl]
 show dl (ba _) = dl (ba _) ↔ _
 rw [dl_ba, dl_ba]
 refine ⟨fun e => text_inj hV hV2 e, fun h => ?_⟩
 obtain ⟨rfl, rfl⟩ := h
 rfl
end Go.Proofs.YtinfejpkjddbiaaDoor.Pure
