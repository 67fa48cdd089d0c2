/- Part of the proof of the law GraphtextWritesBack: PureGraphtextWritesBack. -/
import Derived.Test.YtinfejpkjddbiaaDoorGraphtextWritesBackFn02f
import Derived.Test.YtinfejpkjddbiaaDoorGraphtextWritesBackP14
namespace Go.Proofs.YtinfejpkjddbiaaDoor.Pure
open Go.RowKit Go.Proofs.YtinfejpkjddbiaaDoor.P Go.Proofs.YtinfejpkjddbiaaDoorW.PrintWords Go.Proofs.YtinfejpkjddbiaaDoorW.PrintLast Go.Proofs.YtinfejpkjddbiaaDoorW.PrintMore Go.Proofs.YtinfejpkjddbiaaDoor.Fn01 Go.Proofs.YtinfejpkjddbiaaDoor.Fn02 Go.Proofs.YtinfejpkjddbiaaDoor.Math02
theorem GraphtextWritesBack : ∀ (a0 : ByteArray), a0.size ≤ maxLen → ∃ k, selfstablaw02_GraphtextWritesBack.f k a0 = some true := by
 intro a0 _;refine Ev.rounds (g := fun k => selfstablaw02_GraphtextWritesBack.f k a0) ?_
 by_cases h1 : (a0.size : Int) > 2000
 ·exact Pv.pos h1 (Ev.bind awake_ev (Ev.now _))
 refine Pv.neg h1 ?_
 have hp := tparse a0 (by omega)
 refine Ev.bind hp ?_
 obtain ⟨hl1, hl2⟩ := linesR_len (dl a0)
 rw [dl_len] at hl1 hl2
 obtain ⟨i1, i2, i3⟩ := parseR_len (linesR (dl a0)) 0 [] [] (fun s hs => by have := hl2 s hs; omega) Inv.nil rfl (by simp; omega)
 by_cases h0 : (parseR (linesR (dl a0)) 0 [] []).2.2.2 = 0
 ·refine Pv.pos h0 ?_
  obtain ⟨ids, ps, e1, e2, e3, e4⟩ := parseR_inv _ _ _ _ h0
  rw [List.nil_append, List.nil_append] at e2 e3
  have hV : VG ids ps := (val_iff ids ps).1 e3
  have hS := small hV
  have ew := e4 hS.i (fun r hr => (hS.r r hr).2)
  rw [e2] at i3
  have hwf : WfG ids ps := ⟨fun x hx => wf_of (i3.i x hx).1 (i3.i x hx).2, fun r hr => ⟨(i3.r r hr).1, fun l hl => ⟨wf_of ((i3.r r hr).2 l hl).1.1 ((i3.r r hr).2 l hl).1.2, wf_of ((i3.r r hr).2 l hl).2.1 ((i3.r r hr).2 l hl).2.2⟩⟩⟩
  rw [e2]
  refine Pv.const_bind (tformat hwf hV) ?_
  refine Ev.bind awake_ev ?_
  refine Pv.pos (Eq.refl true) ?_
  refine Pv.pos (Eq.refl (0 : Int)) ?_
  have htl := text_lines (dl a0)
  rw [ew] at htl
  show Ev (fun k => if (ba (textB (nodesB ids ps))).toList = a0.toList then some true else _) true
  rw [toList_dl, dl_ba, toList_dl]
  by_cases he : textB (nodesB ids ps) = dl a0
  ·exact Pv.pos he (Ev.now _)
  ·refine Pv.neg he (Pv.pos (by omega) (Pv.as (Ev.now _) ?_))
   rw [toList_dl, beq_iff_eq]
   rcases htl with h | h
   ·exact absurd h he
   ·rw [h]
    show _ = (a0 ++ ⟨#[10]⟩).data.toList
    rw [ByteArray.data_append, Array.toList_append]
 ·refine Pv.neg h0 ?_
  refine Ev.bind (rparse a0 (by omega)) ?_
  refine Ev.bind awake_ev ?_
  refine Pv.pos (Eq.refl true) ?_
  exact Pv.as (Ev.now _) (beq_self_eq_true _)
end Go.Proofs.YtinfejpkjddbiaaDoor.Pure
