/- Part of the proof of the law GraphtextReadsBack: PureGraphtextReadsBack. -/
import Derived.Test.YtinfejpkjddbiaaDoorGraphtextReadsBackFn02e
import Derived.Test.YtinfejpkjddbiaaDoorGraphtextReadsBackK26
import Derived.Test.YtinfejpkjddbiaaDoorGraphtextReadsBackP11
namespace Go.Proofs.YtinfejpkjddbiaaDoor.Pure
open Go.RowKit Go.Proofs.YtinfejpkjddbiaaDoor.P Go.Proofs.YtinfejpkjddbiaaDoorW.PrintWords Go.Proofs.YtinfejpkjddbiaaDoorW.PrintLast Go.Proofs.YtinfejpkjddbiaaDoorW.PrintMore Go.Proofs.YtinfejpkjddbiaaDoor.Fn01 Go.Proofs.YtinfejpkjddbiaaDoor.Fn02 Go.Proofs.YtinfejpkjddbiaaDoor.Math02
theorem GraphtextReadsBack : ∀ (x0 : S26), ((x0.f0.length ≤ maxLen ∧ ∀ y0 ∈ x0.f0, (Lit.int .i64 y0).wf = true) ∧ (x0.f1.length ≤ maxLen ∧ ∀ y0 ∈ x0.f1, (y0.length ≤ maxLen ∧ ∀ y1 ∈ y0, ((Lit.int .i64 y1.f0).wf = true ∧ (Lit.int .i64 y1.f1).wf = true)))) → ∃ k, selfstablaw02_GraphtextReadsBack.f k x0.f0 x0.f1 = some true := by
 intro x0 hw;obtain ⟨ids, ps⟩ := x0
 show ∃ k, selfstablaw02_GraphtextReadsBack.f k ids ps = some true
 refine Ev.rounds (g := fun k => selfstablaw02_GraphtextReadsBack.f k ids ps) ?_
 have aw : Ev (fun k => (selfstablaw02_awake.f k).bind fun t => some t) true := Ev.bind awake_ev (Ev.now _)
 obtain ⟨b, hb, hl⟩ := light ids ps
 refine Ev.bind hb ?_
 cases b with
 | false => exact Pv.neg Bool.false_ne_true aw
 | true =>
 obtain ⟨l1, l2, l3⟩ := hl rfl
 refine Pv.pos (Eq.refl true) ?_
 have hlr : ∀ r ∈ ps, r.length ≤ 1000000 := fun r hr => by have := l3 r hr; omega
 have hwf : WfG ids ps := ⟨hw.1.2, fun r hr => ⟨hlr r hr, (hw.2.2 r hr).2⟩⟩
 obtain ⟨c, hc, hv⟩ := rvalid ids ps hlr
 by_cases hV : VG ids ps
 ·obtain rfl := hv.2 hV
  obtain ⟨t1, t2, t3⟩ := text_size hV
  have hss := same_refl ids ps (by omega) (by omega) hlr
  refine Pv.const_bind (tformat hwf hV) ?_
  refine Ev.bind hc ?_
  refine Pv.pos (Eq.refl true) ?_
  refine Pv.pos (Eq.refl (0 : Int)) ?_
  generalize htx : textB (nodesB ids ps) = tx at *
  have hpos : 0 < tx.length := List.length_pos_iff.2 t2
  have e0 : (((ba tx).size : Int) == 0) = false := by rw [ba_size]; exact beq_eq_false_iff_ne.2 (by omega)
  show Ev (fun k => selfstablaw02_GraphtextReadsBack.j0 k (ba tx) (((ba tx).size : Int) == 0) ids ps) true
  rw [e0]
  have rb := read_back hV
  have rs := read_back_short hV
  rw [htx] at rb rs
  refine Ev.step (fun k => by simp only [selfstablaw02_GraphtextReadsBack.j0]; rfl) (Pv.neg Bool.false_ne_true ?_)
  refine Ev.bind rb ?_
  have e1 : wrap64 (((ba tx).size : Int) - 1) = ((tx.length - 1 : Nat) : Int) := by rw [ba_size, Pv.w64 (by omega) (by omega)]; omega
  rw [e1, Int.toNat_natCast]
  refine Pv.pos (by omega) (Pv.pos (by rw [ba_size]; omega) ?_)
  have e2 : (ba tx).extract 0 (tx.length - 1) = ba tx.dropLast := ba_eq (by rw [dl_ba, dl_extract, dl_ba, List.drop_zero, Nat.sub_zero, List.dropLast_eq_take])
  rw [e2]
  refine Ev.bind rs ?_
  refine Ev.bind awake_ev ?_
  refine Pv.pos (Eq.refl true) ?_
  refine Pv.pos (Eq.refl (0 : Int)) ?_
  refine Pv.pos (Eq.refl (0 : Int)) ?_
  refine Pv.pos (Eq.refl (0 : Int)) ?_
  refine Ev.bind hss ?_
  refine Pv.pos (Eq.refl true) ?_
  refine Ev.bind hss ?_
  exact Ev.now _
 ·have e : c = false := Bool.eq_false_iff.2 (fun e => hV (hv.1 e))
  subst e;refine Pv.const_bind (tformat_not hwf hV) ?_
  refine Ev.bind hc ?_
  refine Pv.neg Bool.false_ne_true ?_
  refine Ev.bind awake_ev ?_
  refine Pv.pos (Eq.refl true) ?_
  refine Pv.pos (Eq.refl (1 : Int)) ?_
  refine Pv.as (Ev.now _) ?_
  rw [toList_dl, dl_ba]
  rfl
end Go.Proofs.YtinfejpkjddbiaaDoor.Pure
