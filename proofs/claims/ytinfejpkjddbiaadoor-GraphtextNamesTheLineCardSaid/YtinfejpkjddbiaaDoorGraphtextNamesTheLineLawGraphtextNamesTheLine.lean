/- The pure statement of GraphtextNamesTheLine. -/
import Derived.Test.YtinfejpkjddbiaaDoorRows
import Derived.Test.YtinfejpkjddbiaaDoorCards
import Derived.Test.YtinfejpkjddbiaaDoorTie
import Derived.LaidMore
import Derived.Lay
import Derived.SevenTiedAt
import Derived.Stop.Joined
import Derived.Handy
import Derived.Test.YtinfejpkjddbiaaDoorGraphtextNamesTheLineP13
import Derived.Test.YtinfejpkjddbiaaDoorGraphtextNamesTheLinePureGraphtextNamesTheLine
import Derived.Test.YtinfejpkjddbiaaDoorGraphtextNamesTheLineOpen
import Derived.WalkKit
import Derived.ProofKit
import Derived.OpenShut
import Derived.ShutString
import Derived.ChangeOld
import Derived.Below
import Derived.SizedLaws
import Derived.KernelRfl
import Derived.HandedShaped
import Derived.Shelf.Vars
namespace Go.Proofs.YtinfejpkjddbiaaDoor.graphtextNamesTheLine
open Go.ChangeShapes Go.WideShapes Go.ChangeAt Go.RowKit
open Go.ChangeMaps (open_string shut_string)
open Go.Proofs.YtinfejpkjddbiaaDoor.P Go.Proofs.YtinfejpkjddbiaaDoorW.PrintWords Go.Proofs.YtinfejpkjddbiaaDoorW.PrintLast
set_option linter.unusedVariables false
theorem own : ownKnob Tryd.prog.godebug = none := by kernel_rfl
theorem laidOut : laidOutB Tryd.prog = true := by kernel_rfl
theorem opens41 {W : World} {H : Type} {enc : TypeId × Value → H} : Open.Opens Tryd.prog W enc 41 k41 (fun x => ((Lit.int .i64 x.f0).wf = true ∧ (Lit.int .i64 x.f1).wf = true)) :=
 Open.Opens.struct (fun x : S41 => (x.f0, x.f1)) (fun a => ⟨a.1, a.2⟩) (fun _ => rfl) Tryd.underlying41 (by kernel_rfl) (Open.OpensF.cons rfl rfl (Open.Opens.int Tryd.underlying3 (by kernel_rfl)) (Open.OpensF.one rfl rfl (Open.Opens.int Tryd.underlying3 (by kernel_rfl))) (by kernel_rfl)) (fun _ h => h)
theorem opens26 {W : World} {H : Type} {enc : TypeId × Value → H} : Open.Opens Tryd.prog W enc 26 k26 (fun x => ((x.f0.length ≤ maxLen ∧ ∀ y0 ∈ x.f0, (Lit.int .i64 y0).wf = true) ∧ (x.f1.length ≤ maxLen ∧ ∀ y0 ∈ x.f1, (y0.length ≤ maxLen ∧ ∀ y1 ∈ y0, ((Lit.int .i64 y1.f0).wf = true ∧ (Lit.int .i64 y1.f1).wf = true))))) :=
 Open.Opens.struct (fun x : S26 => (x.f0, x.f1)) (fun a => ⟨a.1, a.2⟩) (fun _ => rfl) Tryd.underlying26 (by kernel_rfl) (Open.OpensF.cons rfl rfl (Open.Opens.slice Tryd.underlying23 (by kernel_rfl) (Open.Opens.int Tryd.underlying3 (by kernel_rfl))) (Open.OpensF.one rfl rfl (Open.Opens.slice Tryd.underlying24 (by kernel_rfl) (Open.Opens.slice Tryd.underlying39 (by kernel_rfl) opens41))) (by kernel_rfl)) (fun _ h => h)
theorem returns_shaped_and {H : Type} {enc : TypeId × Value → H} {a : Assume} {C : Checked} {os : Os} {f : FuncId} {fn : Func} {s : ChangeSpec} {conds : List PathCond} {apart fresh handsOn again : Bool} {X : World → Array Value → Prop}
  (hX : ∀ (w w' : World) (args : Array Value), w.heap = w'.heap → X w args → X w' args)
  (own : ownKnob C.prog.godebug = none) (started : os.Started) (noInit : C.prog.inits.idxOf? f = none) (hfn : C.prog.funcs[f]? = some fn)
  (witness : ∃ (w : World) (tape : Tape) (i : Input), w.os = os ∧ (w.forCall tape i).Shaped C.prog ∧ i.vars = [] ∧ Input.okWide C.prog (w.forCall tape i) .any w.heap.size f i ∧
   ((s.pre enc C.prog fn conds apart (w.forCall tape i).memory i.args ∧ X (w.forCall tape i).memory i.args) ∧ sizedMet enc C.prog fn (OpenSpec.ofChange s) apart (w.forCall tape i).memory i.args) ∧ a.holds C.prog (lone (Frame.enter C.prog f i.args .normal) [] (w.forCall tape i)))
  (contract : ∀ (W : World) (base : Nat) (args : Array Value) (ds gs : List (DataW H)) (before : List MemPlace),
   (∀ (j : Nat) t v, fn.params[j]? = some t → args[j]? = some v → Value.okWide C.prog W .any base t v) →
   DataW.Whole enc C.prog fn.params.toList s.vars apart W args.toList ds gs before →
   conds.all (PathCond.test C.prog ⟨fn.params.toList, ds, s.plain.varTypes C.prog, gs⟩) = true →
   (DataW.weightsEach C.prog (fn.params.toList ++ s.plain.varTypes C.prog) (ds ++ gs)).all (· ≤ reachBytes) = true → W.ShapedOpen C.prog → X W args →
   a.holds C.prog (lone (Frame.enter C.prog f args .normal) [] W) →
   Calls C.prog f args W fun e W' => ∃ v, e = .returned v ∧ s.post enc C.prog fn apart fresh handsOn again W args v W') :
  ReturnsInHanded a C os f .any (fun w args => (s.pre enc C.prog fn conds apart w args ∧ X w args) ∧ sizedMet enc C.prog fn (OpenSpec.ofChange s) apart w args) (s.post enc C.prog fn apart fresh handsOn again) := by
 refine returnsInHanded_of_calls own started noInit witness ?_
 intro w tape i _ hsh _ hok hpre hholds;obtain ⟨_, _, _, fn', hfn', _, _, _, _, hval⟩ := hok
 have e : fn' = fn := Option.some.inj (hfn'.symm.trans hfn)
 subst e;obtain ⟨⟨⟨ds, gs, before, hw, hc⟩, hx⟩, hz⟩ := hpre
 have hw' := DataW.Whole.of_heap (w' := w.forCall tape i) (by rfl) hw
 refine (contract (w.forCall tape i) w.heap.size i.args ds gs before hval hw' hc (hz.weights hw) hsh (hX _ _ _ (by rfl) hx) hholds).mono fun e W' ⟨v, he, hp⟩ => ?_
 subst he;exact ChangeSpec.post_blind hp
set_option maxRecDepth 100000 in
theorem lifted (os : Os) (started : os.Started) (H : Type) (enc : TypeId × Value → H) :
  ReturnsInHanded {} Tryd.checked os 4 .any (fun w args => (Rows.graphtextNamesTheLineSpec.pre enc Tryd.prog Tryd.f4 Rows.graphtextNamesTheLineRow.domain false w args ∧ laidMetH Tryd.prog Rows.graphtextNamesTheLineRow.laid w) ∧ sizedMet enc Tryd.prog Tryd.f4 (OpenSpec.ofChange Rows.graphtextNamesTheLineSpec) false w args) (Rows.graphtextNamesTheLineSpec.post enc Tryd.prog Tryd.f4 false true false false) := by
 refine returns_shaped_and (C := Tryd.checked) (X := fun w _ => laidMetH Tryd.prog Rows.graphtextNamesTheLineRow.laid w) (fun _ _ _ hh h => h.of_heap hh) own started (by kernel_rfl) Tryd.func4
  (ChangeSpec.witness_shaped (enc := enc) (C := Tryd.checked) (os := os) (X := fun w _ => laidMetH Tryd.prog Rows.graphtextNamesTheLineRow.laid w) false (World.laidAll Tryd.prog os Rows.graphtextNamesTheLineRow.laid) #[.agg #[.slice none 0 0, .slice none 0 0], .int .i64 0, .string ByteArray.empty] 8 (World.laidAll_os _ _ _)
   (World.shaped_of_ZipB (by kernel_rfl) (by kernel_rfl)) (by kernel_rfl) (by kernel_rfl) (by kernel_rfl)
   (by rw [MakeChecks.laidMetH_plain _ _ _ (by kernel_rfl)]; exact laidMet_laidAll _ (by kernel_rfl) (by kernel_rfl))) ?_
 intro W base args ds gs before hval0 hW hcnd hsz0 hsh_ hL_ _;have hshp : Shp W := cell_of_shapedOpen_int (P := Tryd.prog) (g := 0) (zero := #[.int .i64 0]) (t := 3) hsh_ (of_decide_eq_true (by kernel_rfl)) (by kernel_rfl) rfl (by kernel_rfl) (by kernel_rfl) Tryd.underlying3
 have hval : ∀ (j : Nat) t v, Tryd.f4.params[j]? = some t → args[j]? = some v → Value.okWide Tryd.prog W .any base t v := hval0
 have hW' := hW
 obtain ⟨p, q, hA0, hV, rfl, hfz, hnd⟩ := hW
 have hA : DataW.TrodAll enc Tryd.prog W 0 (fun _ => true) true Tryd.f4.params.toList args.toList ds p := hA0
 rw [Tryd.params4] at hA hval
 obtain ⟨v0, vs0, d0, ds0, p0, q0, hargs, rfl, rfl, h0, r0⟩ := trodAll_cons hA
 obtain ⟨v1, vs1, d1, ds1, p1, q1, rfl, rfl, rfl, h1, r1⟩ := trodAll_cons r0
 obtain ⟨v2, vs2, d2, ds2, p2, q2, rfl, rfl, rfl, h2, r2⟩ := trodAll_cons r1
 obtain ⟨rfl, rfl, rfl⟩ := trodAll_nil r2
 obtain rfl : args = #[v0, v1, v2] := by cases args; simp_all
 obtain ⟨rfl, rfl⟩ := trodVars_none hV
 have k0_ := h0
 have lt0 : ∀ x ∈ p0, x.block < W.heap.size := by obtain ⟨m, hm⟩ := k0_; exact DataW.trod_lt m _ _ _ hm
 obtain ⟨cs0, x0, rfl, hk0, hw0⟩ := Open.open_struct Tryd.underlying26 opens26 (hval 0 26 v0 rfl rfl) h0
 obtain ⟨A0_0, c0_0, A0_1, c0_1, rfl, hl0_0, hr0_0, hl0_1, hr0_1⟩ := k26_open hk0
 obtain ⟨a1, rfl, rfl, rfl, w1⟩ := open_int Tryd.underlying3 (hval 1 3 v1 rfl rfl) h1
 obtain ⟨a2, rfl, rfl, rfl, y2⟩ := open_string Tryd.underlying9 (hval 2 9 v2 rfl rfl) h2
 clear hA0 hval0 hsz0;obtain ⟨k, hk_⟩ := Pure.GraphtextNamesTheLine x0 a1 a2 hw0 w1 y2
 refine (selfstablaw02_GraphtextNamesTheLine.calls k _ _ x0.f0 _ _ x0.f1 a1 a2 true W hshp hr0_0 hl0_0 hr0_1 hl0_1 hk_).mono fun e W' ⟨he, bel0⟩ => ?_
 have bel := bel0
 subst he;exact ⟨_, rfl, _, _, _, [], _, [], hW', trodAll_mk1 (shut_bool Tryd.underlying4 _), (trodAll_cons_mk (Below.trod laidOut (by kernel_rfl) (of_decide_eq_true (by kernel_rfl)) k0_ bel lt0) (trodAll_cons_mk (shut_int Tryd.underlying3 w1) (trodAll_cons_mk (shut_string Tryd.underlying9 y2) trodAll_mk0))), rfl, bel.frame _, fun h => by cases h⟩
theorem over : Rows.graphtextNamesTheLineRow.holds Tryd.pinned (OpenSpec.ofChange Rows.graphtextNamesTheLineSpec) :=
 OpenClaim.holds_of_wide 4 Tryd.f4 rfl rfl rfl rfl rfl rfl rfl ⟨rfl, rfl, rfl, rfl, rfl⟩ rfl rfl rfl rfl rfl (by kernel_rfl) Tryd.func4 (by kernel_rfl)
  (of_decide_eq_true (by kernel_rfl)) (by unfold Func.isWrapper; first | (rw [if_pos (by decide +kernel)]; kernel_rfl) | (rw [if_neg (by decide +kernel)]; exact ⟨rfl, rfl⟩))
  (fun os started H enc _ => lifted os started H enc)
theorem proved : Rows.GraphtextNamesTheLineSaid := over
theorem card : Rows.GraphtextNamesTheLineCardSaid :=
 Claim7.holds_tied_plain_at .later [] [.data, .pinned] true (true, "1f7c36e51f64e0680c514c30c13006bdd3914dc17774c06d149eaa061d4a5cf0") false proved (fun _ h => by cases h) (by kernel_rfl) (fun _ h => by cases h) graphtextNamesTheLine_row_tie rfl ⟨rfl, rfl⟩ (by kernel_rfl) rfl
  (fun f fn hf hfn => by
   obtain rfl : f = 4 := Option.some.inj ((show Tryd.prog.funcNamed "selfstab/selfstablaw02.GraphtextNamesTheLine" = some 4 by kernel_rfl).symm.trans hf) |>.symm
   obtain rfl : fn = Tryd.f4 := (Option.some.inj (Tryd.func4.symm.trans hfn)).symm
   exact ⟨by kernel_rfl, fun j t ht => by
    have hm : t ∈ Tryd.f4.params.toList := Array.mem_toList_iff.2 (Array.mem_of_getElem? ht)
    have hall : (Tryd.f4.params.toList.all fun u => !Tryd.prog.wantsStandIn u) = true := by kernel_rfl
    exact (show Tryd.prog.wantsStandIn t = false by simpa using List.all_eq_true.1 hall t hm)⟩)
  (by kernel_rfl)
#print axioms card
end Go.Proofs.YtinfejpkjddbiaaDoor.graphtextNamesTheLine
namespace Go.Proofs.YtinfejpkjddbiaaDoor
theorem graphtextNamesTheLine_holds : Rows.GraphtextNamesTheLineCardSaid := graphtextNamesTheLine.card
end Go.Proofs.YtinfejpkjddbiaaDoor
