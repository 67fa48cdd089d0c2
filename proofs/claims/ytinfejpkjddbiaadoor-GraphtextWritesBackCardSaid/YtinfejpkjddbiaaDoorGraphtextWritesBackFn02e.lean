/- Part of the proof of the law GraphtextWritesBack: Fn02e. -/
import Derived.Test.YtinfejpkjddbiaaDoorGraphtextWritesBackFn02d
import Derived.Test.YtinfejpkjddbiaaDoorGraphtextWritesBackP9
namespace Go.Proofs.YtinfejpkjddbiaaDoor.Fn02
open Go.RowKit Go.Proofs.YtinfejpkjddbiaaDoor.P Go.Proofs.YtinfejpkjddbiaaDoorW.PrintWords Go.Proofs.YtinfejpkjddbiaaDoorW.PrintLast Go.Proofs.YtinfejpkjddbiaaDoorW.PrintMore Go.Proofs.YtinfejpkjddbiaaDoor.Fn01 Go.Proofs.YtinfejpkjddbiaaDoor.Math02
set_option linter.unusedVariables false
set_option linter.unusedSimpArgs false
set_option linter.unusedSectionVars false
theorem itoa_all : ∀ n < 256, Lib.itoa ((n : Nat) : Int) = dec n := by decide +kernel
theorem itoa_dec {x : Int} (h : sm x) : Lib.itoa x = dec x.toNat := by
 have := itoa_all _ (sm_nat h).1
 rw [(sm_nat h).2] at this
 exact this
theorem trow_eq : ∀ (r : Row), (∀ l ∈ r, smL l) → graphtext_Format.row r = lksB r
 | [], h => rfl
 | l :: r, h => by
  have hl := h l (by simp)
  rw [graphtext_Format.row, trow_eq r (fun x hx => h x (by simp [hx])), itoa_dec hl.1, itoa_dec hl.2]
  show _ = 32 :: (lkb l ++ lksB r)
  unfold lkb
  simp
theorem ttext_eq : ∀ (ids : List Int) (ps : List Row), ids.length = ps.length → (∀ x ∈ ids, sm x) → (∀ r ∈ ps, ∀ l ∈ r, smL l) → graphtext_Format.text ids ps = textB (nodesB ids ps)
 | [], [], hl, hi, hr => rfl
 | [], _ :: _, hl, hi, hr => by simp at hl
 | _ :: _, [], hl, hi, hr => by simp at hl
 | x :: ids, r :: ps, hl, hi, hr => by
  rw [graphtext_Format.text, ttext_eq ids ps (by simpa using hl) (fun y hy => hi y (by simp [hy])) (fun y hy => hr y (by simp [hy])), itoa_dec (hi x (by simp)), trow_eq r (hr r (by simp))]
  show _ = nodeB x r ++ 10 :: textB (nodesB ids ps)
  unfold nodeB
  simp
def WfG (ids : List Int) (ps : List Row) : Prop := (∀ x ∈ ids, (Lit.int .i64 x).wf = true) ∧ ∀ r ∈ ps, r.length ≤ 1000000 ∧ ∀ l ∈ r, (Lit.int .i64 l.f0).wf = true ∧ (Lit.int .i64 l.f1).wf = true
theorem tvalid2 {ids : List Int} {ps : List Row} (h : WfG ids ps) : graph_Valid.f ids ps = some (graph_Valid.val ids ps) := by
 unfold graph_Valid.f
 rw [if_pos]
 rw [Bool.and_eq_true, List.all_eq_true, List.all_eq_true]
 refine ⟨h.1, fun r hr => ?_⟩
 rw [Bool.and_eq_true, List.all_eq_true]
 refine ⟨decide_eq_true (h.2 r hr).1, fun l hl => ?_⟩
 rw [Bool.and_eq_true]
 exact (h.2 r hr).2 l hl
theorem tformat {ids : List Int} {ps : List Row} (hw : WfG ids ps) (h : VG ids ps) : graphtext_Format.f ids ps = some (ba (textB (nodesB ids ps)), 0) := by
 have hs := small h
 have h24 := hs.n2
 have ht := ttext_eq ids ps hs.len hs.i (fun r hr => (hs.r r hr).2)
 have htl := text_len (nodesB ids ps) 192 (fun s h => (nodes_size hs s h).1)
 rw [nodes_len hs] at htl
 unfold graphtext_Format.f
 rw [tvalid2 hw, (val_iff ids ps).2 h, Option.bind_some, if_pos rfl, ht, if_pos ⟨hs.len, by omega, by omega⟩]
 rfl
section
end
end Go.Proofs.YtinfejpkjddbiaaDoor.Fn02
