/- The pure statement of GraphtextTellsGraphsApart. -/
import Derived.Test.YtinfejpkjddbiaaDoorRows
import Derived.Test.YtinfejpkjddbiaaDoorCards
import Derived.Test.YtinfejpkjddbiaaDoorTie
import Derived.LaidMore
import Derived.Lib.LaidTab
import Derived.Lay
import Derived.SevenTiedAt
import Derived.Stop.Joined
import Derived.Handy
import Derived.Test.YtinfejpkjddbiaaDoorGraphtextTellsGraphsApartP14
import Derived.Test.YtinfejpkjddbiaaDoorGraphtextTellsGraphsApartPureGraphtextTellsGraphsApart
import Derived.Test.YtinfejpkjddbiaaDoorGraphtextTellsGraphsApartOpen
import Derived.WalkKit
import Derived.ProofKit
import Derived.OpenShut
import Derived.ShutString
import Derived.ChangeOld
import Derived.Below
import Derived.SizedLaws
import Derived.KernelRfl
import Derived.HandedShaped
import Derived.Shelf.Vars
namespace Go.Proofs.YtinfejpkjddbiaaDoor.graphtextTellsGraphsApart
open Go.ChangeShapes Go.WideShapes Go.ChangeAt Go.RowKit
open Go.ChangeMaps (open_string shut_string)
open Go.Proofs.YtinfejpkjddbiaaDoor.P Go.Proofs.YtinfejpkjddbiaaDoorW.PrintWords Go.Proofs.YtinfejpkjddbiaaDoorW.PrintLast
set_option linter.unusedVariables false
theorem own : ownKnob Tryd.prog.godebug = none := by kernel_rfl
theorem laidOut : laidOutB Tryd.prog = true := by kernel_rfl
theorem opens41 {W : World} {H : Type} {enc : TypeId × Value → H} : Open.Opens Tryd.prog W enc 41 k41 (fun x => ((Lit.int .i64 x.f0).wf = true ∧ (Lit.int .i64 x.f1).wf = true)) :=
 Open.Opens.struct (fun x : S41 => (x.f0, x.f1)) (fun a => ⟨a.1, a.2⟩) (fun _ => rfl) Tryd.underlying41 (by kernel_rfl) (Open.OpensF.cons rfl rfl (Open.Opens.int Tryd.underlying3 (by kernel_rfl)) (Open.OpensF.one rfl rfl (Open.Opens.int Tryd.underlying3 (by kernel_rfl))) (by kernel_rfl)) (fun _ h => h)
theorem opens26 {W : World} {H : Type} {enc : TypeId × Value → H} : Open.Opens Tryd.prog W enc 26 k26 (fun x => ((x.f0.length ≤ maxLen ∧ ∀ y0 ∈ x.f0, (Lit.int .i64 y0).wf = true) ∧ (x.f1.length ≤ maxLen ∧ ∀ y0 ∈ x.f1, (y0.length ≤ maxLen ∧ ∀ y1 ∈ y0, ((Lit.int .i64 y1.f0).wf = true ∧ (Lit.int .i64 y1.f1).wf = true))))) :=
 Open.Opens.struct (fun x : S26 => (x.f0, x.f1)) (fun a => ⟨a.1, a.2⟩) (fun _ => rfl) Tryd.underlying26 (by kernel_rfl) (Open.OpensF.cons rfl rfl (Open.Opens.slice Tryd.underlying23 (by kernel_rfl) (Open.Opens.int Tryd.underlying3 (by kernel_rfl))) (Open.OpensF.one rfl rfl (Open.Opens.slice Tryd.underlying24 (by kernel_rfl) (Open.Opens.slice Tryd.underlying39 (by kernel_rfl) opens41))) (by kernel_rfl)) (fun _ h => h)
theorem returns_shaped_and {H : Type} {enc : TypeId × Value → H} {a : Assume} {C : Checked} {os : Os} {f : FuncId} {fn : Func} {s : ChangeSpec} {conds : List PathCond} {apart fresh handsOn again : Bool} {X : World → Array Value → Prop}
  (hX : ∀ (w w' : World) (args : Array Value), w.heap = w'.heap → X w args → X w' args)
  (own : ownKnob C.prog.godebug = none) (started : os.Started) (noInit : C.prog.inits.idxOf? f = none) (hfn : C.prog.funcs[f]? = some fn)
  (witness : ∃ (w : World) (tape : Tape) (i : Input), w.os = os ∧ (w.forCall tape i).Shaped C.prog ∧ i.vars = [] ∧ Input.okWide C.prog (w.forCall tape i) .any w.heap.size f i ∧
   ((s.pre enc C.prog fn conds apart (w.forCall tape i).memory i.args ∧ X (w.forCall tape i).memory i.args) ∧ sizedMet enc C.prog fn (OpenSpec.ofChange s) apart (w.forCall tape i).memory i.args) ∧ a.holds C.prog (lone (Frame.enter C.prog f i.args .normal) [] (w.forCall tape i)))
  (contract : ∀ (W : World) (base : Nat) (args : Array Value) (ds gs : List (DataW H)) (before : List MemPlace),
   (∀ (j : Nat) t v, fn.params[j]? = some t → args[j]? = some v → Value.okWide C.prog W .any base t v) →
   DataW.Whole enc C.prog fn.params.toList s.vars apart W args.toList ds gs before →
   conds.all (PathCond.test C.prog ⟨fn.params.toList, ds, s.plain.varTypes C.prog, gs⟩) = true →
   (DataW.weightsEach C.prog (fn.params.toList ++ s.plain.varTypes C.prog) (ds ++ gs)).all (· ≤ reachBytes) = true → W.ShapedOpen C.prog → X W args →
   a.holds C.prog (lone (Frame.enter C.prog f args .normal) [] W) →
   Calls C.prog f args W fun e W' => ∃ v, e = .returned v ∧ s.post enc C.prog fn apart fresh handsOn again W args v W') :
  ReturnsInHanded a C os f .any (fun w args => (s.pre enc C.prog fn conds apart w args ∧ X w args) ∧ sizedMet enc C.prog fn (OpenSpec.ofChange s) apart w args) (s.post enc C.prog fn apart fresh handsOn again) := by
 refine returnsInHanded_of_calls own started noInit witness ?_
 intro w tape i _ hsh _ hok hpre hholds;obtain ⟨_, _, _, fn', hfn', _, _, _, _, hval⟩ := hok
 have e : fn' = fn := Option.some.inj (hfn'.symm.trans hfn)
 subst e;obtain ⟨⟨⟨ds, gs, before, hw, hc⟩, hx⟩, hz⟩ := hpre
 have hw' := DataW.Whole.of_heap (w' := w.forCall tape i) (by rfl) hw
 refine (contract (w.forCall tape i) w.heap.size i.args ds gs before hval hw' hc (hz.weights hw) hsh (hX _ _ _ (by rfl) hx) hholds).mono fun e W' ⟨v, he, hp⟩ => ?_
 subst he;exact ChangeSpec.post_blind hp
theorem tabOf {W : World} (h : laidMetH Tryd.prog Rows.graphtextTellsGraphsApartRow.laid W) : Lib.TabIs Tryd.prog W "internal/strconv.uint64pow10" .u64 Lib.pow10Tab := by
 rw [MakeChecks.laidMetH_plain _ _ _ (by kernel_rfl)] at h
 obtain ⟨ps, ⟨_, _, _, _, _, _, _, _, _, _, ⟨_, _, _, _, _, _, _, _, _, _, ⟨g, t, cs, fuel, p, q, hg, ht, hv, hd, _, _⟩, _⟩, _⟩, _⟩ := h
 obtain rfl := Option.some.inj ((show Tryd.prog.globalNamed "internal/strconv.uint64pow10" = some 1 by kernel_rfl).symm.trans hg)
 obtain rfl := Option.some.inj ((show (Tryd.prog.globals[1]?).map (·.type) = some 90 by kernel_rfl).symm.trans ht)
 unfold Lib.TabIs
 rw [hv, ← Lib.cells_of_tab (k := .u64) (zs := Lib.pow10Tab) Tryd.underlying90 Tryd.underlying82 (by kernel_rfl) (by kernel_rfl) hd]
set_option maxRecDepth 100000 in
theorem lifted (os : Os) (started : os.Started) (H : Type) (enc : TypeId × Value → H) :
  ReturnsInHanded {} Tryd.checked os 8 .any (fun w args => (Rows.graphtextTellsGraphsApartSpec.pre enc Tryd.prog Tryd.f8 Rows.graphtextTellsGraphsApartRow.domain false w args ∧ laidMetH Tryd.prog Rows.graphtextTellsGraphsApartRow.laid w) ∧ sizedMet enc Tryd.prog Tryd.f8 (OpenSpec.ofChange Rows.graphtextTellsGraphsApartSpec) false w args) (Rows.graphtextTellsGraphsApartSpec.post enc Tryd.prog Tryd.f8 false true false false) := by
 refine returns_shaped_and (C := Tryd.checked) (X := fun w _ => laidMetH Tryd.prog Rows.graphtextTellsGraphsApartRow.laid w) (fun _ _ _ hh h => h.of_heap hh) own started (by kernel_rfl) Tryd.func8
  (ChangeSpec.witness_shaped (enc := enc) (C := Tryd.checked) (os := os) (X := fun w _ => laidMetH Tryd.prog Rows.graphtextTellsGraphsApartRow.laid w) false (World.laidAll Tryd.prog os Rows.graphtextTellsGraphsApartRow.laid) #[.agg #[.slice none 0 0, .slice none 0 0], .agg #[.slice none 0 0, .slice none 0 0]] 8 (World.laidAll_os _ _ _)
   (World.shaped_of_ZipB (by kernel_rfl) (by kernel_rfl)) (by kernel_rfl) (by kernel_rfl) (by kernel_rfl)
   (by rw [MakeChecks.laidMetH_plain _ _ _ (by kernel_rfl)]; exact laidMet_laidAll _ (by kernel_rfl) (by kernel_rfl))) ?_
 intro W base args ds gs before hval0 hW hcnd hsz0 hsh_ hL_ _;have hshp : Shp W := ⟨cell_of_shapedOpen_int (P := Tryd.prog) (g := 0) (zero := #[.int .i64 0]) (t := 3) hsh_ (of_decide_eq_true (by kernel_rfl)) (by kernel_rfl) rfl (by kernel_rfl) (by kernel_rfl) Tryd.underlying3, tabOf hL_⟩
 have hval : ∀ (j : Nat) t v, Tryd.f8.params[j]? = some t → args[j]? = some v → Value.okWide Tryd.prog W .any base t v := hval0
 have hW' := hW
 obtain ⟨p, q, hA0, hV, rfl, hfz, hnd⟩ := hW
 have hA : DataW.TrodAll enc Tryd.prog W 0 (fun _ => true) true Tryd.f8.params.toList args.toList ds p := hA0
 rw [Tryd.params8] at hA hval
 obtain ⟨v0, vs0, d0, ds0, p0, q0, hargs, rfl, rfl, h0, r0⟩ := trodAll_cons hA
 obtain ⟨v1, vs1, d1, ds1, p1, q1, rfl, rfl, rfl, h1, r1⟩ := trodAll_cons r0
 obtain ⟨rfl, rfl, rfl⟩ := trodAll_nil r1
 obtain rfl : args = #[v0, v1] := by cases args; simp_all
 obtain ⟨rfl, rfl⟩ := trodVars_none hV
 have k0_ := h0
 have lt0 : ∀ x ∈ p0, x.block < W.heap.size := by obtain ⟨m, hm⟩ := k0_; exact DataW.trod_lt m _ _ _ hm
 obtain ⟨cs0, x0, rfl, hk0, hw0⟩ := Open.open_struct Tryd.underlying26 opens26 (hval 0 26 v0 rfl rfl) h0
 obtain ⟨A0_0, c0_0, A0_1, c0_1, rfl, hl0_0, hr0_0, hl0_1, hr0_1⟩ := k26_open hk0
 have k1_ := h1
 have lt1 : ∀ x ∈ p1, x.block < W.heap.size := by obtain ⟨m, hm⟩ := k1_; exact DataW.trod_lt m _ _ _ hm
 obtain ⟨cs1, x1, rfl, hk1, hw1⟩ := Open.open_struct Tryd.underlying26 opens26 (hval 1 26 v1 rfl rfl) h1
 obtain ⟨A1_0, c1_0, A1_1, c1_1, rfl, hl1_0, hr1_0, hl1_1, hr1_1⟩ := k26_open hk1
 clear hA0 hval0 hsz0;obtain ⟨k, hk_⟩ := Pure.GraphtextTellsGraphsApart x0 x1 hw0 hw1
 refine (selfstablaw02_GraphtextTellsGraphsApart.calls k _ _ x0.f0 _ _ x0.f1 _ _ x1.f0 _ _ x1.f1 true W hshp hr0_0 hl0_0 hr0_1 hl0_1 hr1_0 hl1_0 hr1_1 hl1_1 hk_).mono fun e W' ⟨he, bel0⟩ => ?_
 have bel := bel0
 subst he;exact ⟨_, rfl, _, _, _, [], _, [], hW', trodAll_mk1 (shut_bool Tryd.underlying4 _), (trodAll_cons_mk (Below.trod laidOut (by kernel_rfl) (of_decide_eq_true (by kernel_rfl)) k0_ bel lt0) (trodAll_cons_mk (Below.trod laidOut (by kernel_rfl) (of_decide_eq_true (by kernel_rfl)) k1_ bel lt1) trodAll_mk0)), rfl, bel.frame _, fun h => by cases h⟩
theorem over : Rows.graphtextTellsGraphsApartRow.holds Tryd.pinned (OpenSpec.ofChange Rows.graphtextTellsGraphsApartSpec) :=
 OpenClaim.holds_of_wide 8 Tryd.f8 rfl rfl rfl rfl rfl rfl rfl ⟨rfl, rfl, rfl, rfl, rfl⟩ rfl rfl rfl rfl rfl (by kernel_rfl) Tryd.func8 (by kernel_rfl)
  (of_decide_eq_true (by kernel_rfl)) (by unfold Func.isWrapper; first | (rw [if_pos (by decide +kernel)]; kernel_rfl) | (rw [if_neg (by decide +kernel)]; exact ⟨rfl, rfl⟩))
  (fun os started H enc _ => lifted os started H enc)
theorem proved : Rows.GraphtextTellsGraphsApartSaid := over
theorem card : Rows.GraphtextTellsGraphsApartCardSaid :=
 Claim7.holds_tied_plain_at .later [] [.data, .data, .data, .data, .pinned] true (true, "1f7c36e51f64e0680c514c30c13006bdd3914dc17774c06d149eaa061d4a5cf0") false proved (fun _ h => by cases h) (by kernel_rfl) (fun _ h => by cases h) graphtextTellsGraphsApart_row_tie rfl ⟨rfl, rfl⟩ (by kernel_rfl) rfl
  (fun f fn hf hfn => by
   obtain rfl : f = 8 := Option.some.inj ((show Tryd.prog.funcNamed "selfstab/selfstablaw02.GraphtextTellsGraphsApart" = some 8 by kernel_rfl).symm.trans hf) |>.symm
   obtain rfl : fn = Tryd.f8 := (Option.some.inj (Tryd.func8.symm.trans hfn)).symm
   exact ⟨by kernel_rfl, fun j t ht => by
    have hm : t ∈ Tryd.f8.params.toList := Array.mem_toList_iff.2 (Array.mem_of_getElem? ht)
    have hall : (Tryd.f8.params.toList.all fun u => !Tryd.prog.wantsStandIn u) = true := by kernel_rfl
    exact (show Tryd.prog.wantsStandIn t = false by simpa using List.all_eq_true.1 hall t hm)⟩)
  (by kernel_rfl)
#print axioms card
end Go.Proofs.YtinfejpkjddbiaaDoor.graphtextTellsGraphsApart
namespace Go.Proofs.YtinfejpkjddbiaaDoor
theorem graphtextTellsGraphsApart_holds : Rows.GraphtextTellsGraphsApartCardSaid := graphtextTellsGraphsApart.card
end Go.Proofs.YtinfejpkjddbiaaDoor
