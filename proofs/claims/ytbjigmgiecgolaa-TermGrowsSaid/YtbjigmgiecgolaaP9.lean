-- made by a program of mine (wip/tools/pp.py over the kit's print)
import Derived.Test.YtbjigmgiecgolaaP0
import Derived.Test.YtbjigmgiecgolaaP2
import Derived.Test.YtbjigmgiecgolaaP3
import Derived.Test.YtbjigmgiecgolaaP4
import Derived.Test.YtbjigmgiecgolaaP5
import Derived.Test.YtbjigmgiecgolaaP8
namespace Go.Proofs.Ytbjigmgiecgolaa.P
open Go.RowKit Go.Proofs.YtbjigmgiecgolaaW.PrintWords Go.Proofs.YtbjigmgiecgolaaW.PrintLast Go.Proofs.YtbjigmgiecgolaaW.PrintMore
attribute [local go_sem] max2_int min2_int max_two min_two max_three min_three max_four min_four   -- for this text's walks alone
set_option linter.unusedVariables false
set_option linter.unusedSimpArgs false

/-! ### selfstablaw05_TermGrows: function 6 -/
mutual
def selfstablaw05_TermGrows.j0 : Nat → Int → List (S31) → List (S31) → List (S31) → Bool → Option (Bool)
  | 0, _, _, _, _, _ => none
  | k + 1, x0, x1, x2, x3, x40 => if x40 = true then ((selfstablaw05_awake.f k).bind fun t243 => (some t243)) else ((selfstabmade_Mod.f x0 26).bind fun t244 => ((some (([(⟨wrap64 (18 + t244), 0⟩ : S31)] : List (S31)) : List (S31))).bind fun y245 => (if y245.length + x1.length < 8796093022208 then ((some (y245 ++ x1 : List (S31))).bind fun y248 => ((term_Depth.f k x1).bind fun t251 => ((term_Nest.f k x1).bind fun t252 => ((selfstabref05_Arity.f k (wrap64 (18 + t244))).bind fun t253 => (if t253 > 1 then (if y248.length + x2.length < 8796093022208 then ((term_Depth.f k x2).bind fun t257 => ((term_Nest.f k x2).bind fun t258 => (selfstablaw05_TermGrows.j1 k (wrap64 (18 + t244)) x3 (y248 ++ x2) (mx t251 t257) (mx t252 t258)))) else (none)) else (selfstablaw05_TermGrows.j1 k (wrap64 (18 + t244)) x3 y248 t251 t252)))))) else (none))))
def selfstablaw05_TermGrows.j1 : Nat → Int → List (S31) → List (S31) → Int → Int → Option (Bool)
  | 0, _, _, _, _, _ => none
  | k + 1, x0, x3, x9, x10, x11 => (selfstabref05_Arity.f k x0).bind fun t259 => (if t259 > 2 then (if x9.length + x3.length < 8796093022208 then ((term_Depth.f k x3).bind fun t263 => ((term_Nest.f k x3).bind fun t264 => (selfstablaw05_TermGrows.j2 k x0 (x9 ++ x3) (mx x10 t263) (mx x11 t264)))) else (none)) else (selfstablaw05_TermGrows.j2 k x0 x9 x10 x11))
def selfstablaw05_TermGrows.j2 : Nat → Int → List (S31) → Int → Int → Option (Bool)
  | 0, _, _, _, _ => none
  | k + 1, x0, x9, x10, x11 => (selfstabref05_Aggregate.f x0).bind fun t265 => (if t265 = true then (selfstablaw05_TermGrows.j3 k x9 x10 (wrap64 (x11 + 1))) else (selfstablaw05_TermGrows.j3 k x9 x10 x11))
def selfstablaw05_TermGrows.j3 : Nat → List (S31) → Int → Int → Option (Bool)
  | 0, _, _, _ => none
  | k + 1, x9, x10, x11 => if (x9.length : Int) ≤ 200 then (if x10 < 24 then (selfstablaw05_TermGrows.j4 k x9 x10 x11 (decide (x11 ≤ 2))) else (selfstablaw05_TermGrows.j4 k x9 x10 x11 false)) else (selfstablaw05_TermGrows.j4 k x9 x10 x11 false)
def selfstablaw05_TermGrows.j4 : Nat → List (S31) → Int → Int → Bool → Option (Bool)
  | 0, _, _, _, _ => none
  | k + 1, x9, x10, x11, x12 => (selfstablaw05_awake.f k).bind fun t266 => (if t266 = true then ((term_Depth.f k x9).bind fun t267 => (if t267 = (wrap64 (x10 + 1)) then ((term_Nest.f k x9).bind fun t268 => (if t268 = x11 then ((term_End.f k x9 0).bind fun t269 => (if t269 = (x9.length : Int) then ((term_Valid.f k x9 6).bind fun t270 => (some (t270 == x12))) else (some false))) else (some false))) else (some false))) else (some false))
end
def selfstablaw05_TermGrows.f (k : Nat) (a0 : Int) (l1 : List (S31)) (l2 : List (S31)) (l3 : List (S31)) : Option (Bool) := (selfstabmade_LightExpr.f l1).bind fun t237 => (if t237 = true then ((selfstabmade_LightExpr.f l2).bind fun t238 => (if t238 = true then ((selfstabmade_LightExpr.f l3).bind fun t239 => (if t239 = true then ((selfstabref05_Valid.f k l1 6).bind fun t240 => (if t240 = true then ((selfstabref05_Valid.f k l2 6).bind fun t241 => (if t241 = true then ((selfstabref05_Valid.f k l3 6).bind fun t242 => (selfstablaw05_TermGrows.j0 k a0 l1 l2 l3 (!t242))) else (selfstablaw05_TermGrows.j0 k a0 l1 l2 l3 true))) else (selfstablaw05_TermGrows.j0 k a0 l1 l2 l3 true))) else (selfstablaw05_TermGrows.j0 k a0 l1 l2 l3 true))) else (selfstablaw05_TermGrows.j0 k a0 l1 l2 l3 true))) else (selfstablaw05_TermGrows.j0 k a0 l1 l2 l3 true))
theorem selfstablaw05_TermGrows.mono_l : ∀ k, (∀ y0 y1 y2 y3 y4, LeO (selfstablaw05_TermGrows.j0 k y0 y1 y2 y3 y4) (selfstablaw05_TermGrows.j0 (k + 1) y0 y1 y2 y3 y4)) ∧ (∀ y0 y1 y2 y3 y4, LeO (selfstablaw05_TermGrows.j1 k y0 y1 y2 y3 y4) (selfstablaw05_TermGrows.j1 (k + 1) y0 y1 y2 y3 y4)) ∧ (∀ y0 y1 y2 y3, LeO (selfstablaw05_TermGrows.j2 k y0 y1 y2 y3) (selfstablaw05_TermGrows.j2 (k + 1) y0 y1 y2 y3)) ∧ (∀ y0 y1 y2, LeO (selfstablaw05_TermGrows.j3 k y0 y1 y2) (selfstablaw05_TermGrows.j3 (k + 1) y0 y1 y2)) ∧ (∀ y0 y1 y2 y3, LeO (selfstablaw05_TermGrows.j4 k y0 y1 y2 y3) (selfstablaw05_TermGrows.j4 (k + 1) y0 y1 y2 y3))
  | 0 => ⟨fun _ _ _ _ _ r h => by simp [selfstablaw05_TermGrows.j0] at h, fun _ _ _ _ _ r h => by simp [selfstablaw05_TermGrows.j1] at h, fun _ _ _ _ r h => by simp [selfstablaw05_TermGrows.j2] at h, fun _ _ _ r h => by simp [selfstablaw05_TermGrows.j3] at h, fun _ _ _ _ r h => by simp [selfstablaw05_TermGrows.j4] at h⟩
  | k + 1 => by
    obtain ⟨ih0, ih1, ih2, ih3, ih4⟩ := selfstablaw05_TermGrows.mono_l k
    refine ⟨?_, ?_, ?_, ?_, ?_⟩
    · intro y0 y1 y2 y3 y4
      unfold selfstablaw05_TermGrows.j0
      repeat' first
      | (with_reducible exact ih0 _ _ _ _ _)
      | (with_reducible exact ih1 _ _ _ _ _)
      | (with_reducible exact ih2 _ _ _ _)
      | (with_reducible exact ih3 _ _ _)
      | (with_reducible exact ih4 _ _ _ _)
      | (with_reducible exact selfstablaw05_awake.mono _)
      | (with_reducible exact selfstabref05_Arity.mono _ _)
      | (with_reducible exact selfstabref05_Valid.mono _ _ _)
      | (with_reducible exact term_Depth.mono _ _)
      | (with_reducible exact term_End.mono _ _ _)
      | (with_reducible exact term_Nest.mono _ _)
      | (with_reducible exact term_Valid.mono _ _ _)
      | (with_reducible exact LeO.refl _)
      | (with_reducible exact LeO.none _)
      | (with_reducible refine LeO.ite ?_ ?_)
      | (with_reducible refine LeO.bind ?_ (fun _ => ?_))
      | exact ih0 _ _ _ _ _
      | exact ih1 _ _ _ _ _
      | exact ih2 _ _ _ _
      | exact ih3 _ _ _
      | exact ih4 _ _ _ _
      | exact selfstablaw05_awake.mono _
      | exact selfstabref05_Arity.mono _ _
      | exact selfstabref05_Valid.mono _ _ _
      | exact term_Depth.mono _ _
      | exact term_End.mono _ _ _
      | exact term_Nest.mono _ _
      | exact term_Valid.mono _ _ _
      | exact LeO.none _
      | refine LeO.ite ?_ ?_
      | refine LeO.bind ?_ (fun _ => ?_)
    · intro y0 y1 y2 y3 y4
      unfold selfstablaw05_TermGrows.j1
      repeat' first
      | (with_reducible exact ih0 _ _ _ _ _)
      | (with_reducible exact ih1 _ _ _ _ _)
      | (with_reducible exact ih2 _ _ _ _)
      | (with_reducible exact ih3 _ _ _)
      | (with_reducible exact ih4 _ _ _ _)
      | (with_reducible exact selfstablaw05_awake.mono _)
      | (with_reducible exact selfstabref05_Arity.mono _ _)
      | (with_reducible exact selfstabref05_Valid.mono _ _ _)
      | (with_reducible exact term_Depth.mono _ _)
      | (with_reducible exact term_End.mono _ _ _)
      | (with_reducible exact term_Nest.mono _ _)
      | (with_reducible exact term_Valid.mono _ _ _)
      | (with_reducible exact LeO.refl _)
      | (with_reducible exact LeO.none _)
      | (with_reducible refine LeO.ite ?_ ?_)
      | (with_reducible refine LeO.bind ?_ (fun _ => ?_))
      | exact ih0 _ _ _ _ _
      | exact ih1 _ _ _ _ _
      | exact ih2 _ _ _ _
      | exact ih3 _ _ _
      | exact ih4 _ _ _ _
      | exact selfstablaw05_awake.mono _
      | exact selfstabref05_Arity.mono _ _
      | exact selfstabref05_Valid.mono _ _ _
      | exact term_Depth.mono _ _
      | exact term_End.mono _ _ _
      | exact term_Nest.mono _ _
      | exact term_Valid.mono _ _ _
      | exact LeO.none _
      | refine LeO.ite ?_ ?_
      | refine LeO.bind ?_ (fun _ => ?_)
    · intro y0 y1 y2 y3
      unfold selfstablaw05_TermGrows.j2
      repeat' first
      | (with_reducible exact ih0 _ _ _ _ _)
      | (with_reducible exact ih1 _ _ _ _ _)
      | (with_reducible exact ih2 _ _ _ _)
      | (with_reducible exact ih3 _ _ _)
      | (with_reducible exact ih4 _ _ _ _)
      | (with_reducible exact selfstablaw05_awake.mono _)
      | (with_reducible exact selfstabref05_Arity.mono _ _)
      | (with_reducible exact selfstabref05_Valid.mono _ _ _)
      | (with_reducible exact term_Depth.mono _ _)
      | (with_reducible exact term_End.mono _ _ _)
      | (with_reducible exact term_Nest.mono _ _)
      | (with_reducible exact term_Valid.mono _ _ _)
      | (with_reducible exact LeO.refl _)
      | (with_reducible exact LeO.none _)
      | (with_reducible refine LeO.ite ?_ ?_)
      | (with_reducible refine LeO.bind ?_ (fun _ => ?_))
      | exact ih0 _ _ _ _ _
      | exact ih1 _ _ _ _ _
      | exact ih2 _ _ _ _
      | exact ih3 _ _ _
      | exact ih4 _ _ _ _
      | exact selfstablaw05_awake.mono _
      | exact selfstabref05_Arity.mono _ _
      | exact selfstabref05_Valid.mono _ _ _
      | exact term_Depth.mono _ _
      | exact term_End.mono _ _ _
      | exact term_Nest.mono _ _
      | exact term_Valid.mono _ _ _
      | exact LeO.none _
      | refine LeO.ite ?_ ?_
      | refine LeO.bind ?_ (fun _ => ?_)
    · intro y0 y1 y2
      unfold selfstablaw05_TermGrows.j3
      repeat' first
      | (with_reducible exact ih0 _ _ _ _ _)
      | (with_reducible exact ih1 _ _ _ _ _)
      | (with_reducible exact ih2 _ _ _ _)
      | (with_reducible exact ih3 _ _ _)
      | (with_reducible exact ih4 _ _ _ _)
      | (with_reducible exact selfstablaw05_awake.mono _)
      | (with_reducible exact selfstabref05_Arity.mono _ _)
      | (with_reducible exact selfstabref05_Valid.mono _ _ _)
      | (with_reducible exact term_Depth.mono _ _)
      | (with_reducible exact term_End.mono _ _ _)
      | (with_reducible exact term_Nest.mono _ _)
      | (with_reducible exact term_Valid.mono _ _ _)
      | (with_reducible exact LeO.refl _)
      | (with_reducible exact LeO.none _)
      | (with_reducible refine LeO.ite ?_ ?_)
      | (with_reducible refine LeO.bind ?_ (fun _ => ?_))
      | exact ih0 _ _ _ _ _
      | exact ih1 _ _ _ _ _
      | exact ih2 _ _ _ _
      | exact ih3 _ _ _
      | exact ih4 _ _ _ _
      | exact selfstablaw05_awake.mono _
      | exact selfstabref05_Arity.mono _ _
      | exact selfstabref05_Valid.mono _ _ _
      | exact term_Depth.mono _ _
      | exact term_End.mono _ _ _
      | exact term_Nest.mono _ _
      | exact term_Valid.mono _ _ _
      | exact LeO.none _
      | refine LeO.ite ?_ ?_
      | refine LeO.bind ?_ (fun _ => ?_)
    · intro y0 y1 y2 y3
      unfold selfstablaw05_TermGrows.j4
      repeat' first
      | (with_reducible exact ih0 _ _ _ _ _)
      | (with_reducible exact ih1 _ _ _ _ _)
      | (with_reducible exact ih2 _ _ _ _)
      | (with_reducible exact ih3 _ _ _)
      | (with_reducible exact ih4 _ _ _ _)
      | (with_reducible exact selfstablaw05_awake.mono _)
      | (with_reducible exact selfstabref05_Arity.mono _ _)
      | (with_reducible exact selfstabref05_Valid.mono _ _ _)
      | (with_reducible exact term_Depth.mono _ _)
      | (with_reducible exact term_End.mono _ _ _)
      | (with_reducible exact term_Nest.mono _ _)
      | (with_reducible exact term_Valid.mono _ _ _)
      | (with_reducible exact LeO.refl _)
      | (with_reducible exact LeO.none _)
      | (with_reducible refine LeO.ite ?_ ?_)
      | (with_reducible refine LeO.bind ?_ (fun _ => ?_))
      | exact ih0 _ _ _ _ _
      | exact ih1 _ _ _ _ _
      | exact ih2 _ _ _ _
      | exact ih3 _ _ _
      | exact ih4 _ _ _ _
      | exact selfstablaw05_awake.mono _
      | exact selfstabref05_Arity.mono _ _
      | exact selfstabref05_Valid.mono _ _ _
      | exact term_Depth.mono _ _
      | exact term_End.mono _ _ _
      | exact term_Nest.mono _ _
      | exact term_Valid.mono _ _ _
      | exact LeO.none _
      | refine LeO.ite ?_ ?_
      | refine LeO.bind ?_ (fun _ => ?_)
theorem selfstablaw05_TermGrows.mono : ∀ a0 a1 a2 a3 k, LeO (selfstablaw05_TermGrows.f k a0 a1 a2 a3) (selfstablaw05_TermGrows.f (k + 1) a0 a1 a2 a3) := by
  intro a0 a1 a2 a3 k
  obtain ⟨ih0, ih1, ih2, ih3, ih4⟩ := selfstablaw05_TermGrows.mono_l k
  unfold selfstablaw05_TermGrows.f
  repeat' first
      | (with_reducible exact ih0 _ _ _ _ _)
      | (with_reducible exact ih1 _ _ _ _ _)
      | (with_reducible exact ih2 _ _ _ _)
      | (with_reducible exact ih3 _ _ _)
      | (with_reducible exact ih4 _ _ _ _)
      | (with_reducible exact selfstablaw05_awake.mono _)
      | (with_reducible exact selfstabref05_Arity.mono _ _)
      | (with_reducible exact selfstabref05_Valid.mono _ _ _)
      | (with_reducible exact term_Depth.mono _ _)
      | (with_reducible exact term_End.mono _ _ _)
      | (with_reducible exact term_Nest.mono _ _)
      | (with_reducible exact term_Valid.mono _ _ _)
      | (with_reducible exact LeO.refl _)
      | (with_reducible exact LeO.none _)
      | (with_reducible refine LeO.ite ?_ ?_)
      | (with_reducible refine LeO.bind ?_ (fun _ => ?_))
      | exact ih0 _ _ _ _ _
      | exact ih1 _ _ _ _ _
      | exact ih2 _ _ _ _
      | exact ih3 _ _ _
      | exact ih4 _ _ _ _
      | exact selfstablaw05_awake.mono _
      | exact selfstabref05_Arity.mono _ _
      | exact selfstabref05_Valid.mono _ _ _
      | exact term_Depth.mono _ _
      | exact term_End.mono _ _ _
      | exact term_Nest.mono _ _
      | exact term_Valid.mono _ _ _
      | exact LeO.none _
      | refine LeO.ite ?_ ?_
      | refine LeO.bind ?_ (fun _ => ?_)
set_option maxHeartbeats 8000000 in
set_option maxRecDepth 100000 in
theorem selfstablaw05_TermGrows.calls (k : Nat) (a0 : Int) (A1 : Option Addr) (c1 : Nat) (l1 : List (S31)) (A2 : Option Addr) (c2 : Nat) (l2 : List (S31)) (A3 : Option Addr) (c3 : Nat) (l3 : List (S31)) (r : Bool) (w : World) (hr1 : Kd.C k31 w A1 l1.length l1) (hc1 : l1.length ≤ c1) (hr2 : Kd.C k31 w A2 l2.length l2) (hc2 : l2.length ≤ c2) (hr3 : Kd.C k31 w A3 l3.length l3) (hc3 : l3.length ≤ c3) (h : selfstablaw05_TermGrows.f k a0 l1 l2 l3 = some r) :
    Calls Try.prog 6 #[.int .i64 a0, .slice A1 l1.length c1, .slice A2 l2.length c2, .slice A3 l3.length c3] w fun e w' => e = .returned (.bool r) ∧ Below w.heap.size w w' := by
  have hu31 := Try.underlying31
  have HR1 := Aside0.mk hr1
  have HC1 := Aside0.mk hc1
  clear hr1 hc1
  have HR2 := Aside0.mk hr2
  have HC2 := Aside0.mk hc2
  clear hr2 hc2
  have HR3 := Aside0.mk hr3
  have HC3 := Aside0.mk hc3
  clear hr3 hc3
  have HB := Aside0.mk (Below.refl w.heap.size w)
  have H : ((selfstabmade_LightExpr.f l1).bind fun t237 => (if t237 = true then ((selfstabmade_LightExpr.f l2).bind fun t238 => (if t238 = true then ((selfstabmade_LightExpr.f l3).bind fun t239 => (if t239 = true then ((selfstabref05_Valid.f k l1 6).bind fun t240 => (if t240 = true then ((selfstabref05_Valid.f k l2 6).bind fun t241 => (if t241 = true then ((selfstabref05_Valid.f k l3 6).bind fun t242 => (selfstablaw05_TermGrows.j0 k a0 l1 l2 l3 (!t242))) else (selfstablaw05_TermGrows.j0 k a0 l1 l2 l3 true))) else (selfstablaw05_TermGrows.j0 k a0 l1 l2 l3 true))) else (selfstablaw05_TermGrows.j0 k a0 l1 l2 l3 true))) else (selfstablaw05_TermGrows.j0 k a0 l1 l2 l3 true))) else (selfstablaw05_TermGrows.j0 k a0 l1 l2 l3 true))) = some r := h
  clear h
  have HC5 := Aside0.mk H
  clear H
  go_enter Try.func6, Try.ntmps6
  go_upto_region 1 with (fail)
  go_cut [40] (fun v40 wc => ∃ (kq : Nat) (x40_4 : Bool), v40 = .bool x40_4 ∧ Aside0 (selfstablaw05_TermGrows.j0 kq a0 l1 l2 l3 x40_4 = some r) ∧ Aside0 (kq ≤ k) ∧ Aside0 (Below w.heap.size w wc))
  case first =>
    have H := HC5.out
    clear HC5
    replace H := Option.bind_eq_some_iff.mp H
    obtain ⟨t237, A60, H⟩ := H
    replace H : (if t237 = true then ((selfstabmade_LightExpr.f l2).bind fun t238 => (if t238 = true then ((selfstabmade_LightExpr.f l3).bind fun t239 => (if t239 = true then ((selfstabref05_Valid.f k l1 6).bind fun t240 => (if t240 = true then ((selfstabref05_Valid.f k l2 6).bind fun t241 => (if t241 = true then ((selfstabref05_Valid.f k l3 6).bind fun t242 => (selfstablaw05_TermGrows.j0 k a0 l1 l2 l3 (!t242))) else (selfstablaw05_TermGrows.j0 k a0 l1 l2 l3 true))) else (selfstablaw05_TermGrows.j0 k a0 l1 l2 l3 true))) else (selfstablaw05_TermGrows.j0 k a0 l1 l2 l3 true))) else (selfstablaw05_TermGrows.j0 k a0 l1 l2 l3 true))) else (selfstablaw05_TermGrows.j0 k a0 l1 l2 l3 true)) = some r := H
    have A6 := Aside0.mk A60
    clear A60
    by_cases c7 : t237 = true
    · subst c7
      have H1 : ((selfstabmade_LightExpr.f l2).bind fun t238 => (if t238 = true then ((selfstabmade_LightExpr.f l3).bind fun t239 => (if t239 = true then ((selfstabref05_Valid.f k l1 6).bind fun t240 => (if t240 = true then ((selfstabref05_Valid.f k l2 6).bind fun t241 => (if t241 = true then ((selfstabref05_Valid.f k l3 6).bind fun t242 => (selfstablaw05_TermGrows.j0 k a0 l1 l2 l3 (!t242))) else (selfstablaw05_TermGrows.j0 k a0 l1 l2 l3 true))) else (selfstablaw05_TermGrows.j0 k a0 l1 l2 l3 true))) else (selfstablaw05_TermGrows.j0 k a0 l1 l2 l3 true))) else (selfstablaw05_TermGrows.j0 k a0 l1 l2 l3 true))) = some r := by rw [if_pos rfl] at H; exact H
      clear H
      have H := H1
      clear H1
      replace H := Option.bind_eq_some_iff.mp H
      obtain ⟨t238, A80, H⟩ := H
      replace H : (if t238 = true then ((selfstabmade_LightExpr.f l3).bind fun t239 => (if t239 = true then ((selfstabref05_Valid.f k l1 6).bind fun t240 => (if t240 = true then ((selfstabref05_Valid.f k l2 6).bind fun t241 => (if t241 = true then ((selfstabref05_Valid.f k l3 6).bind fun t242 => (selfstablaw05_TermGrows.j0 k a0 l1 l2 l3 (!t242))) else (selfstablaw05_TermGrows.j0 k a0 l1 l2 l3 true))) else (selfstablaw05_TermGrows.j0 k a0 l1 l2 l3 true))) else (selfstablaw05_TermGrows.j0 k a0 l1 l2 l3 true))) else (selfstablaw05_TermGrows.j0 k a0 l1 l2 l3 true)) = some r := H
      have A8 := Aside0.mk A80
      clear A80
      by_cases c9 : t238 = true
      · subst c9
        have H1 : ((selfstabmade_LightExpr.f l3).bind fun t239 => (if t239 = true then ((selfstabref05_Valid.f k l1 6).bind fun t240 => (if t240 = true then ((selfstabref05_Valid.f k l2 6).bind fun t241 => (if t241 = true then ((selfstabref05_Valid.f k l3 6).bind fun t242 => (selfstablaw05_TermGrows.j0 k a0 l1 l2 l3 (!t242))) else (selfstablaw05_TermGrows.j0 k a0 l1 l2 l3 true))) else (selfstablaw05_TermGrows.j0 k a0 l1 l2 l3 true))) else (selfstablaw05_TermGrows.j0 k a0 l1 l2 l3 true))) = some r := by rw [if_pos rfl] at H; exact H
        clear H
        have H := H1
        clear H1
        replace H := Option.bind_eq_some_iff.mp H
        obtain ⟨t239, A100, H⟩ := H
        replace H : (if t239 = true then ((selfstabref05_Valid.f k l1 6).bind fun t240 => (if t240 = true then ((selfstabref05_Valid.f k l2 6).bind fun t241 => (if t241 = true then ((selfstabref05_Valid.f k l3 6).bind fun t242 => (selfstablaw05_TermGrows.j0 k a0 l1 l2 l3 (!t242))) else (selfstablaw05_TermGrows.j0 k a0 l1 l2 l3 true))) else (selfstablaw05_TermGrows.j0 k a0 l1 l2 l3 true))) else (selfstablaw05_TermGrows.j0 k a0 l1 l2 l3 true)) = some r := H
        have A10 := Aside0.mk A100
        clear A100
        by_cases c11 : t239 = true
        · subst c11
          have H1 : ((selfstabref05_Valid.f k l1 6).bind fun t240 => (if t240 = true then ((selfstabref05_Valid.f k l2 6).bind fun t241 => (if t241 = true then ((selfstabref05_Valid.f k l3 6).bind fun t242 => (selfstablaw05_TermGrows.j0 k a0 l1 l2 l3 (!t242))) else (selfstablaw05_TermGrows.j0 k a0 l1 l2 l3 true))) else (selfstablaw05_TermGrows.j0 k a0 l1 l2 l3 true))) = some r := by rw [if_pos rfl] at H; exact H
          clear H
          have H := H1
          clear H1
          replace H := Option.bind_eq_some_iff.mp H
          obtain ⟨t240, A120, H⟩ := H
          replace H : (if t240 = true then ((selfstabref05_Valid.f k l2 6).bind fun t241 => (if t241 = true then ((selfstabref05_Valid.f k l3 6).bind fun t242 => (selfstablaw05_TermGrows.j0 k a0 l1 l2 l3 (!t242))) else (selfstablaw05_TermGrows.j0 k a0 l1 l2 l3 true))) else (selfstablaw05_TermGrows.j0 k a0 l1 l2 l3 true)) = some r := H
          have A12 := Aside0.mk A120
          clear A120
          by_cases c13 : t240 = true
          · subst c13
            have H1 : ((selfstabref05_Valid.f k l2 6).bind fun t241 => (if t241 = true then ((selfstabref05_Valid.f k l3 6).bind fun t242 => (selfstablaw05_TermGrows.j0 k a0 l1 l2 l3 (!t242))) else (selfstablaw05_TermGrows.j0 k a0 l1 l2 l3 true))) = some r := by rw [if_pos rfl] at H; exact H
            clear H
            have H := H1
            clear H1
            replace H := Option.bind_eq_some_iff.mp H
            obtain ⟨t241, A140, H⟩ := H
            replace H : (if t241 = true then ((selfstabref05_Valid.f k l3 6).bind fun t242 => (selfstablaw05_TermGrows.j0 k a0 l1 l2 l3 (!t242))) else (selfstablaw05_TermGrows.j0 k a0 l1 l2 l3 true)) = some r := H
            have A14 := Aside0.mk A140
            clear A140
            by_cases c15 : t241 = true
            · subst c15
              have H1 : ((selfstabref05_Valid.f k l3 6).bind fun t242 => (selfstablaw05_TermGrows.j0 k a0 l1 l2 l3 (!t242))) = some r := by rw [if_pos rfl] at H; exact H
              clear H
              have H := H1
              clear H1
              replace H := Option.bind_eq_some_iff.mp H
              obtain ⟨t242, A160, H⟩ := H
              replace H : (selfstablaw05_TermGrows.j0 k a0 l1 l2 l3 (!t242)) = some r := H
              have A16 := Aside0.mk A160
              clear A160
              have H' := Aside0.mk H
              clear H
              go_wp2_with (first | ((with_reducible refine gate_callee (f := 10) rfl ?_); refine goesL_ (some 14) rfl rfl Try.func10 (by kernel_rfl) rfl #[.slice A1 l1.length c1] rfl (by (try simp only [List.map_toArray, List.map_cons, List.map_nil]); first | done | rfl | (simp only [List.length_drop, List.length_take]; rfl)) ?_; (with_reducible refine (selfstabmade_LightExpr.calls _ _ l1 true _ ?side1 ?side2 A6.out).mono ?_); (case side1 => repeat (first | exact (Kd.C_below HR1.out HB.out) | (with_reducible refine Kd.C_alloc ?_ _) | (with_reducible refine Kd.C_drewN ?_ _) | (with_reducible refine Kd.C_drew ?_))); (case side2 => exact HC1.out); rintro e w' ⟨rfl, ⟨nd, rfl⟩⟩; refine ⟨_, rfl, ?_⟩) | (go_at_call 10; (with_reducible refine (selfstabmade_LightExpr.calls _ _ l2 true _ ?side1 ?side2 A8.out).mono ?_); (case side1 => repeat (first | exact (Kd.C_below HR2.out (by repeat (first | (with_reducible first | exact HB.out | apply below_alloc | apply pw_below_drewN | apply below_drew1) | exact HB.out))) | (with_reducible refine Kd.C_alloc ?_ _) | (with_reducible refine Kd.C_drewN ?_ _) | (with_reducible refine Kd.C_drew ?_))); (case side2 => exact HC2.out); rintro e w' ⟨rfl, ⟨nd, rfl⟩⟩) | (go_at_call 10; (with_reducible refine (selfstabmade_LightExpr.calls _ _ l3 true _ ?side1 ?side2 A10.out).mono ?_); (case side1 => repeat (first | exact (Kd.C_below HR3.out (by repeat (first | (with_reducible first | exact HB.out | apply below_alloc | apply pw_below_drewN | apply below_drew1) | exact HB.out))) | (with_reducible refine Kd.C_alloc ?_ _) | (with_reducible refine Kd.C_drewN ?_ _) | (with_reducible refine Kd.C_drew ?_))); (case side2 => exact HC3.out); rintro e w' ⟨rfl, ⟨nd, rfl⟩⟩) | (go_at_call 22; (with_reducible refine (selfstabref05_Valid.calls k _ _ l1 6 true _ ?side1 ?side2 A12.out).mono ?_); (case side1 => repeat (first | exact (Kd.C_below HR1.out (by repeat (first | (with_reducible first | exact HB.out | apply below_alloc | apply pw_below_drewN | apply below_drew1) | exact HB.out))) | (with_reducible refine Kd.C_alloc ?_ _) | (with_reducible refine Kd.C_drewN ?_ _) | (with_reducible refine Kd.C_drew ?_))); (case side2 => exact HC1.out); rintro e w17 ⟨rfl, hb⟩; have n0_ := Aside0.mk (below_step (by repeat (first | (with_reducible first | exact HB.out | apply below_alloc | apply pw_below_drewN | apply below_drew1) | exact HB.out)) hb); clear HB; have HB := n0_; clear n0_; (try clear hb); (try clear hb2); (try clear hk); (try clear hi)) | (go_at_call 22; (with_reducible refine (selfstabref05_Valid.calls k _ _ l2 6 true _ ?side1 ?side2 A14.out).mono ?_); (case side1 => repeat (first | exact (Kd.C_below HR2.out HB.out) | (with_reducible refine Kd.C_alloc ?_ _) | (with_reducible refine Kd.C_drewN ?_ _) | (with_reducible refine Kd.C_drew ?_))); (case side2 => exact HC2.out); rintro e w18 ⟨rfl, hb⟩; have n0_ := Aside0.mk (below_step (by repeat (first | (with_reducible first | exact HB.out | apply below_alloc | apply pw_below_drewN | apply below_drew1) | exact HB.out)) hb); clear HB; have HB := n0_; clear n0_; (try clear hb); (try clear hb2); (try clear hk); (try clear hi)) | (go_at_call 22; (with_reducible refine (selfstabref05_Valid.calls k _ _ l3 6 t242 _ ?side1 ?side2 A16.out).mono ?_); (case side1 => repeat (first | exact (Kd.C_below HR3.out HB.out) | (with_reducible refine Kd.C_alloc ?_ _) | (with_reducible refine Kd.C_drewN ?_ _) | (with_reducible refine Kd.C_drew ?_))); (case side2 => exact HC3.out); rintro e w19 ⟨rfl, hb⟩; have n0_ := Aside0.mk (below_step (by repeat (first | (with_reducible first | exact HB.out | apply below_alloc | apply pw_below_drewN | apply below_drew1) | exact HB.out)) hb); clear HB; have HB := n0_; clear n0_; (try clear hb); (try clear hb2); (try clear hk); (try clear hi)))
              go_meet
              case rel => exact ⟨_, (!t242), (by first | rfl | (simp; done) | (simp [*]; done)), H', ⟨by first | omega | exact Nat.le_refl _⟩, ⟨by repeat (first | (with_reducible first | exact HB.out | apply below_alloc | apply pw_below_drewN | apply below_drew1) | exact HB.out)⟩⟩
            · replace c15 := Bool.eq_false_iff.mpr c15
              subst c15
              have H1 : (selfstablaw05_TermGrows.j0 k a0 l1 l2 l3 true) = some r := by rw [if_neg (show ¬ (false = true) by decide)] at H; exact H
              clear H
              have H := H1
              clear H1
              have H' := Aside0.mk H
              clear H
              go_wp2_with (first | ((with_reducible refine gate_callee (f := 10) rfl ?_); refine goesL_ (some 14) rfl rfl Try.func10 (by kernel_rfl) rfl #[.slice A1 l1.length c1] rfl (by (try simp only [List.map_toArray, List.map_cons, List.map_nil]); first | done | rfl | (simp only [List.length_drop, List.length_take]; rfl)) ?_; (with_reducible refine (selfstabmade_LightExpr.calls _ _ l1 true _ ?side1 ?side2 A6.out).mono ?_); (case side1 => repeat (first | exact (Kd.C_below HR1.out HB.out) | (with_reducible refine Kd.C_alloc ?_ _) | (with_reducible refine Kd.C_drewN ?_ _) | (with_reducible refine Kd.C_drew ?_))); (case side2 => exact HC1.out); rintro e w' ⟨rfl, ⟨nd, rfl⟩⟩; refine ⟨_, rfl, ?_⟩) | (go_at_call 10; (with_reducible refine (selfstabmade_LightExpr.calls _ _ l2 true _ ?side1 ?side2 A8.out).mono ?_); (case side1 => repeat (first | exact (Kd.C_below HR2.out (by repeat (first | (with_reducible first | exact HB.out | apply below_alloc | apply pw_below_drewN | apply below_drew1) | exact HB.out))) | (with_reducible refine Kd.C_alloc ?_ _) | (with_reducible refine Kd.C_drewN ?_ _) | (with_reducible refine Kd.C_drew ?_))); (case side2 => exact HC2.out); rintro e w' ⟨rfl, ⟨nd, rfl⟩⟩) | (go_at_call 10; (with_reducible refine (selfstabmade_LightExpr.calls _ _ l3 true _ ?side1 ?side2 A10.out).mono ?_); (case side1 => repeat (first | exact (Kd.C_below HR3.out (by repeat (first | (with_reducible first | exact HB.out | apply below_alloc | apply pw_below_drewN | apply below_drew1) | exact HB.out))) | (with_reducible refine Kd.C_alloc ?_ _) | (with_reducible refine Kd.C_drewN ?_ _) | (with_reducible refine Kd.C_drew ?_))); (case side2 => exact HC3.out); rintro e w' ⟨rfl, ⟨nd, rfl⟩⟩) | (go_at_call 22; (with_reducible refine (selfstabref05_Valid.calls k _ _ l1 6 true _ ?side1 ?side2 A12.out).mono ?_); (case side1 => repeat (first | exact (Kd.C_below HR1.out (by repeat (first | (with_reducible first | exact HB.out | apply below_alloc | apply pw_below_drewN | apply below_drew1) | exact HB.out))) | (with_reducible refine Kd.C_alloc ?_ _) | (with_reducible refine Kd.C_drewN ?_ _) | (with_reducible refine Kd.C_drew ?_))); (case side2 => exact HC1.out); rintro e w20 ⟨rfl, hb⟩; have n0_ := Aside0.mk (below_step (by repeat (first | (with_reducible first | exact HB.out | apply below_alloc | apply pw_below_drewN | apply below_drew1) | exact HB.out)) hb); clear HB; have HB := n0_; clear n0_; (try clear hb); (try clear hb2); (try clear hk); (try clear hi)) | (go_at_call 22; (with_reducible refine (selfstabref05_Valid.calls k _ _ l2 6 false _ ?side1 ?side2 A14.out).mono ?_); (case side1 => repeat (first | exact (Kd.C_below HR2.out HB.out) | (with_reducible refine Kd.C_alloc ?_ _) | (with_reducible refine Kd.C_drewN ?_ _) | (with_reducible refine Kd.C_drew ?_))); (case side2 => exact HC2.out); rintro e w21 ⟨rfl, hb⟩; have n0_ := Aside0.mk (below_step (by repeat (first | (with_reducible first | exact HB.out | apply below_alloc | apply pw_below_drewN | apply below_drew1) | exact HB.out)) hb); clear HB; have HB := n0_; clear n0_; (try clear hb); (try clear hb2); (try clear hk); (try clear hi)))
              go_meet
              case rel => exact ⟨_, (true), (by first | rfl | (simp; done) | (simp [*]; done)), H', ⟨by first | omega | exact Nat.le_refl _⟩, ⟨by repeat (first | (with_reducible first | exact HB.out | apply below_alloc | apply pw_below_drewN | apply below_drew1) | exact HB.out)⟩⟩
          · replace c13 := Bool.eq_false_iff.mpr c13
            subst c13
            have H1 : (selfstablaw05_TermGrows.j0 k a0 l1 l2 l3 true) = some r := by rw [if_neg (show ¬ (false = true) by decide)] at H; exact H
            clear H
            have H := H1
            clear H1
            have H' := Aside0.mk H
            clear H
            go_wp2_with (first | ((with_reducible refine gate_callee (f := 10) rfl ?_); refine goesL_ (some 14) rfl rfl Try.func10 (by kernel_rfl) rfl #[.slice A1 l1.length c1] rfl (by (try simp only [List.map_toArray, List.map_cons, List.map_nil]); first | done | rfl | (simp only [List.length_drop, List.length_take]; rfl)) ?_; (with_reducible refine (selfstabmade_LightExpr.calls _ _ l1 true _ ?side1 ?side2 A6.out).mono ?_); (case side1 => repeat (first | exact (Kd.C_below HR1.out HB.out) | (with_reducible refine Kd.C_alloc ?_ _) | (with_reducible refine Kd.C_drewN ?_ _) | (with_reducible refine Kd.C_drew ?_))); (case side2 => exact HC1.out); rintro e w' ⟨rfl, ⟨nd, rfl⟩⟩; refine ⟨_, rfl, ?_⟩) | (go_at_call 10; (with_reducible refine (selfstabmade_LightExpr.calls _ _ l2 true _ ?side1 ?side2 A8.out).mono ?_); (case side1 => repeat (first | exact (Kd.C_below HR2.out (by repeat (first | (with_reducible first | exact HB.out | apply below_alloc | apply pw_below_drewN | apply below_drew1) | exact HB.out))) | (with_reducible refine Kd.C_alloc ?_ _) | (with_reducible refine Kd.C_drewN ?_ _) | (with_reducible refine Kd.C_drew ?_))); (case side2 => exact HC2.out); rintro e w' ⟨rfl, ⟨nd, rfl⟩⟩) | (go_at_call 10; (with_reducible refine (selfstabmade_LightExpr.calls _ _ l3 true _ ?side1 ?side2 A10.out).mono ?_); (case side1 => repeat (first | exact (Kd.C_below HR3.out (by repeat (first | (with_reducible first | exact HB.out | apply below_alloc | apply pw_below_drewN | apply below_drew1) | exact HB.out))) | (with_reducible refine Kd.C_alloc ?_ _) | (with_reducible refine Kd.C_drewN ?_ _) | (with_reducible refine Kd.C_drew ?_))); (case side2 => exact HC3.out); rintro e w' ⟨rfl, ⟨nd, rfl⟩⟩) | (go_at_call 22; (with_reducible refine (selfstabref05_Valid.calls k _ _ l1 6 false _ ?side1 ?side2 A12.out).mono ?_); (case side1 => repeat (first | exact (Kd.C_below HR1.out (by repeat (first | (with_reducible first | exact HB.out | apply below_alloc | apply pw_below_drewN | apply below_drew1) | exact HB.out))) | (with_reducible refine Kd.C_alloc ?_ _) | (with_reducible refine Kd.C_drewN ?_ _) | (with_reducible refine Kd.C_drew ?_))); (case side2 => exact HC1.out); rintro e w22 ⟨rfl, hb⟩; have n0_ := Aside0.mk (below_step (by repeat (first | (with_reducible first | exact HB.out | apply below_alloc | apply pw_below_drewN | apply below_drew1) | exact HB.out)) hb); clear HB; have HB := n0_; clear n0_; (try clear hb); (try clear hb2); (try clear hk); (try clear hi)))
            go_meet
            case rel => exact ⟨_, (true), (by first | rfl | (simp; done) | (simp [*]; done)), H', ⟨by first | omega | exact Nat.le_refl _⟩, ⟨by repeat (first | (with_reducible first | exact HB.out | apply below_alloc | apply pw_below_drewN | apply below_drew1) | exact HB.out)⟩⟩
        · replace c11 := Bool.eq_false_iff.mpr c11
          subst c11
          have H1 : (selfstablaw05_TermGrows.j0 k a0 l1 l2 l3 true) = some r := by rw [if_neg (show ¬ (false = true) by decide)] at H; exact H
          clear H
          have H := H1
          clear H1
          have H' := Aside0.mk H
          clear H
          go_wp2_with (first | ((with_reducible refine gate_callee (f := 10) rfl ?_); refine goesL_ (some 14) rfl rfl Try.func10 (by kernel_rfl) rfl #[.slice A1 l1.length c1] rfl (by (try simp only [List.map_toArray, List.map_cons, List.map_nil]); first | done | rfl | (simp only [List.length_drop, List.length_take]; rfl)) ?_; (with_reducible refine (selfstabmade_LightExpr.calls _ _ l1 true _ ?side1 ?side2 A6.out).mono ?_); (case side1 => repeat (first | exact (Kd.C_below HR1.out HB.out) | (with_reducible refine Kd.C_alloc ?_ _) | (with_reducible refine Kd.C_drewN ?_ _) | (with_reducible refine Kd.C_drew ?_))); (case side2 => exact HC1.out); rintro e w' ⟨rfl, ⟨nd, rfl⟩⟩; refine ⟨_, rfl, ?_⟩) | (go_at_call 10; (with_reducible refine (selfstabmade_LightExpr.calls _ _ l2 true _ ?side1 ?side2 A8.out).mono ?_); (case side1 => repeat (first | exact (Kd.C_below HR2.out (by repeat (first | (with_reducible first | exact HB.out | apply below_alloc | apply pw_below_drewN | apply below_drew1) | exact HB.out))) | (with_reducible refine Kd.C_alloc ?_ _) | (with_reducible refine Kd.C_drewN ?_ _) | (with_reducible refine Kd.C_drew ?_))); (case side2 => exact HC2.out); rintro e w' ⟨rfl, ⟨nd, rfl⟩⟩) | (go_at_call 10; (with_reducible refine (selfstabmade_LightExpr.calls _ _ l3 false _ ?side1 ?side2 A10.out).mono ?_); (case side1 => repeat (first | exact (Kd.C_below HR3.out (by repeat (first | (with_reducible first | exact HB.out | apply below_alloc | apply pw_below_drewN | apply below_drew1) | exact HB.out))) | (with_reducible refine Kd.C_alloc ?_ _) | (with_reducible refine Kd.C_drewN ?_ _) | (with_reducible refine Kd.C_drew ?_))); (case side2 => exact HC3.out); rintro e w' ⟨rfl, ⟨nd, rfl⟩⟩))
          go_meet
          case rel => exact ⟨_, (true), (by first | rfl | (simp; done) | (simp [*]; done)), H', ⟨by first | omega | exact Nat.le_refl _⟩, ⟨by repeat (first | (with_reducible first | exact HB.out | apply below_alloc | apply pw_below_drewN | apply below_drew1) | exact HB.out)⟩⟩
      · replace c9 := Bool.eq_false_iff.mpr c9
        subst c9
        have H1 : (selfstablaw05_TermGrows.j0 k a0 l1 l2 l3 true) = some r := by rw [if_neg (show ¬ (false = true) by decide)] at H; exact H
        clear H
        have H := H1
        clear H1
        have H' := Aside0.mk H
        clear H
        go_wp2_with (first | ((with_reducible refine gate_callee (f := 10) rfl ?_); refine goesL_ (some 14) rfl rfl Try.func10 (by kernel_rfl) rfl #[.slice A1 l1.length c1] rfl (by (try simp only [List.map_toArray, List.map_cons, List.map_nil]); first | done | rfl | (simp only [List.length_drop, List.length_take]; rfl)) ?_; (with_reducible refine (selfstabmade_LightExpr.calls _ _ l1 true _ ?side1 ?side2 A6.out).mono ?_); (case side1 => repeat (first | exact (Kd.C_below HR1.out HB.out) | (with_reducible refine Kd.C_alloc ?_ _) | (with_reducible refine Kd.C_drewN ?_ _) | (with_reducible refine Kd.C_drew ?_))); (case side2 => exact HC1.out); rintro e w' ⟨rfl, ⟨nd, rfl⟩⟩; refine ⟨_, rfl, ?_⟩) | (go_at_call 10; (with_reducible refine (selfstabmade_LightExpr.calls _ _ l2 false _ ?side1 ?side2 A8.out).mono ?_); (case side1 => repeat (first | exact (Kd.C_below HR2.out (by repeat (first | (with_reducible first | exact HB.out | apply below_alloc | apply pw_below_drewN | apply below_drew1) | exact HB.out))) | (with_reducible refine Kd.C_alloc ?_ _) | (with_reducible refine Kd.C_drewN ?_ _) | (with_reducible refine Kd.C_drew ?_))); (case side2 => exact HC2.out); rintro e w' ⟨rfl, ⟨nd, rfl⟩⟩))
        go_meet
        case rel => exact ⟨_, (true), (by first | rfl | (simp; done) | (simp [*]; done)), H', ⟨by first | omega | exact Nat.le_refl _⟩, ⟨by repeat (first | (with_reducible first | exact HB.out | apply below_alloc | apply pw_below_drewN | apply below_drew1) | exact HB.out)⟩⟩
    · replace c7 := Bool.eq_false_iff.mpr c7
      subst c7
      have H1 : (selfstablaw05_TermGrows.j0 k a0 l1 l2 l3 true) = some r := by rw [if_neg (show ¬ (false = true) by decide)] at H; exact H
      clear H
      have H := H1
      clear H1
      have H' := Aside0.mk H
      clear H
      go_wp2_with (first | ((with_reducible refine gate_callee (f := 10) rfl ?_); refine goesL_ (some 14) rfl rfl Try.func10 (by kernel_rfl) rfl #[.slice A1 l1.length c1] rfl (by (try simp only [List.map_toArray, List.map_cons, List.map_nil]); first | done | rfl | (simp only [List.length_drop, List.length_take]; rfl)) ?_; (with_reducible refine (selfstabmade_LightExpr.calls _ _ l1 false _ ?side1 ?side2 A6.out).mono ?_); (case side1 => repeat (first | exact (Kd.C_below HR1.out HB.out) | (with_reducible refine Kd.C_alloc ?_ _) | (with_reducible refine Kd.C_drewN ?_ _) | (with_reducible refine Kd.C_drew ?_))); (case side2 => exact HC1.out); rintro e w' ⟨rfl, ⟨nd, rfl⟩⟩; refine ⟨_, rfl, ?_⟩))
      go_meet
      case rel => exact ⟨_, (true), (by first | rfl | (simp; done) | (simp [*]; done)), H', ⟨by first | omega | exact Nat.le_refl _⟩, ⟨by repeat (first | (with_reducible first | exact HB.out | apply below_alloc | apply pw_below_drewN | apply below_drew1) | exact HB.out)⟩⟩
  case rest =>
    clear HC5
    try clear c1
    try clear c2
    try clear p2
    try clear c3
    try clear c6
    try clear c7
    try clear c9
    try clear c10
    try clear c11
    try clear c13
    try clear c15
    obtain ⟨kq, x40_4, rfl, HA, HJ4, HB⟩ := hcut
    cases kq with
    | zero => exact absurd HA.out (by simp [selfstablaw05_TermGrows.j0])
    | succ kj4 =>
      have H := HA.out
      clear HA
      simp only [selfstablaw05_TermGrows.j0] at H
      by_cases c23 : x40_4 = true
      · subst c23
        have H1 : ((selfstablaw05_awake.f kj4).bind fun t243 => (some t243)) = some r := by rw [if_pos rfl] at H; exact H
        clear H
        have H := H1
        clear H1
        replace H := Option.bind_eq_some_iff.mp H
        obtain ⟨t243, A240, H⟩ := H
        replace H : (some t243) = some r := H
        have A24 := Aside0.mk A240
        clear A240
        obtain rfl := Option.some.inj H
        go_wp2_with (first | ((with_reducible refine gate_callee (f := 11) rfl ?_); refine goesL_ (some 41) rfl rfl Try.func11 (by kernel_rfl) rfl #[] rfl (by (try simp only [List.map_toArray, List.map_cons, List.map_nil]); first | done | rfl | (simp only [List.length_drop, List.length_take]; rfl)) ?_; (with_reducible refine (selfstablaw05_awake.calls kj4  t243 _ A24.out).mono ?_); rintro e w25 ⟨rfl, hb⟩; refine ⟨_, rfl, ?_⟩; have n0_ := Aside0.mk (below_step (by repeat (first | (with_reducible first | exact HB.out | apply below_alloc | apply pw_below_drewN | apply below_drew1) | exact HB.out)) hb); clear HB; have HB := n0_; clear n0_; (try clear hb); (try clear hb2); (try clear hk); (try clear hi)))
        go_ret
        exact ⟨by first | rfl | (simp [errW_none, errW_some] <;> rfl) | (simp [*, errW_none, errW_some] <;> rfl), by repeat (first | (with_reducible first | exact HB.out | apply below_alloc | apply pw_below_drewN | apply below_drew1) | exact HB.out)⟩
      · replace c23 := Bool.eq_false_iff.mpr c23
        subst c23
        have H1 : ((selfstabmade_Mod.f a0 26).bind fun t244 => ((some (([(⟨wrap64 (18 + t244), 0⟩ : S31)] : List (S31)) : List (S31))).bind fun y245 => (if y245.length + l1.length < 8796093022208 then ((some (y245 ++ l1 : List (S31))).bind fun y248 => ((term_Depth.f kj4 l1).bind fun t251 => ((term_Nest.f kj4 l1).bind fun t252 => ((selfstabref05_Arity.f kj4 (wrap64 (18 + t244))).bind fun t253 => (if t253 > 1 then (if y248.length + l2.length < 8796093022208 then ((term_Depth.f kj4 l2).bind fun t257 => ((term_Nest.f kj4 l2).bind fun t258 => (selfstablaw05_TermGrows.j1 kj4 (wrap64 (18 + t244)) l3 (y248 ++ l2) (mx t251 t257) (mx t252 t258)))) else (none)) else (selfstablaw05_TermGrows.j1 kj4 (wrap64 (18 + t244)) l3 y248 t251 t252)))))) else (none)))) = some r := by rw [if_neg (show ¬ (false = true) by decide)] at H; exact H
        clear H
        have H := H1
        clear H1
        replace H := Option.bind_eq_some_iff.mp H
        obtain ⟨t244, A260, H⟩ := H
        replace H : ((some (([(⟨wrap64 (18 + t244), 0⟩ : S31)] : List (S31)) : List (S31))).bind fun y245 => (if y245.length + l1.length < 8796093022208 then ((some (y245 ++ l1 : List (S31))).bind fun y248 => ((term_Depth.f kj4 l1).bind fun t251 => ((term_Nest.f kj4 l1).bind fun t252 => ((selfstabref05_Arity.f kj4 (wrap64 (18 + t244))).bind fun t253 => (if t253 > 1 then (if y248.length + l2.length < 8796093022208 then ((term_Depth.f kj4 l2).bind fun t257 => ((term_Nest.f kj4 l2).bind fun t258 => (selfstablaw05_TermGrows.j1 kj4 (wrap64 (18 + t244)) l3 (y248 ++ l2) (mx t251 t257) (mx t252 t258)))) else (none)) else (selfstablaw05_TermGrows.j1 kj4 (wrap64 (18 + t244)) l3 y248 t251 t252)))))) else (none))) = some r := H
        have A26 := Aside0.mk A260
        clear A260
        obtain ⟨y245, hy245⟩ : ∃ y_ : List (S31), y_ = (([(⟨wrap64 (18 + t244), 0⟩ : S31)] : List (S31))) := ⟨_, rfl⟩
        replace H : (if y245.length + l1.length < 8796093022208 then ((some (y245 ++ l1 : List (S31))).bind fun y248 => ((term_Depth.f kj4 l1).bind fun t251 => ((term_Nest.f kj4 l1).bind fun t252 => ((selfstabref05_Arity.f kj4 (wrap64 (18 + t244))).bind fun t253 => (if t253 > 1 then (if y248.length + l2.length < 8796093022208 then ((term_Depth.f kj4 l2).bind fun t257 => ((term_Nest.f kj4 l2).bind fun t258 => (selfstablaw05_TermGrows.j1 kj4 (wrap64 (18 + t244)) l3 (y248 ++ l2) (mx t251 t257) (mx t252 t258)))) else (none)) else (selfstablaw05_TermGrows.j1 kj4 (wrap64 (18 + t244)) l3 y248 t251 t252)))))) else (none)) = some r := by first | (rw [hy245]; with_reducible exact H) | (have H2_ := (Option.bind_some _ _).symm.trans H; rw [hy245]; with_reducible exact H2_) | (have H2_ := (Option.bind_some _ _).symm.trans H; with_reducible exact H2_) | with_reducible exact H | (rw [hy245]; exact H) | exact H
        have Ny245 := Aside0.mk hy245
        clear hy245
        by_cases c27 : y245.length + l1.length < 8796093022208
        · rw [if_pos c27] at H
          have LMc27 := Aside0.mk c27
          clear c27
          obtain ⟨y248, hy248⟩ : ∃ y_ : List (S31), y_ = (y245 ++ l1) := ⟨_, rfl⟩
          replace H : ((term_Depth.f kj4 l1).bind fun t251 => ((term_Nest.f kj4 l1).bind fun t252 => ((selfstabref05_Arity.f kj4 (wrap64 (18 + t244))).bind fun t253 => (if t253 > 1 then (if y248.length + l2.length < 8796093022208 then ((term_Depth.f kj4 l2).bind fun t257 => ((term_Nest.f kj4 l2).bind fun t258 => (selfstablaw05_TermGrows.j1 kj4 (wrap64 (18 + t244)) l3 (y248 ++ l2) (mx t251 t257) (mx t252 t258)))) else (none)) else (selfstablaw05_TermGrows.j1 kj4 (wrap64 (18 + t244)) l3 y248 t251 t252))))) = some r := by first | (rw [hy248]; with_reducible exact H) | (have H2_ := (Option.bind_some _ _).symm.trans H; rw [hy248]; with_reducible exact H2_) | (have H2_ := (Option.bind_some _ _).symm.trans H; with_reducible exact H2_) | with_reducible exact H | (rw [hy248]; exact H) | exact H
          have Ny248 := Aside0.mk hy248
          clear hy248
          replace H := Option.bind_eq_some_iff.mp H
          obtain ⟨t251, A280, H⟩ := H
          replace H : ((term_Nest.f kj4 l1).bind fun t252 => ((selfstabref05_Arity.f kj4 (wrap64 (18 + t244))).bind fun t253 => (if t253 > 1 then (if y248.length + l2.length < 8796093022208 then ((term_Depth.f kj4 l2).bind fun t257 => ((term_Nest.f kj4 l2).bind fun t258 => (selfstablaw05_TermGrows.j1 kj4 (wrap64 (18 + t244)) l3 (y248 ++ l2) (mx t251 t257) (mx t252 t258)))) else (none)) else (selfstablaw05_TermGrows.j1 kj4 (wrap64 (18 + t244)) l3 y248 t251 t252)))) = some r := H
          have A28 := Aside0.mk A280
          clear A280
          replace H := Option.bind_eq_some_iff.mp H
          obtain ⟨t252, A290, H⟩ := H
          replace H : ((selfstabref05_Arity.f kj4 (wrap64 (18 + t244))).bind fun t253 => (if t253 > 1 then (if y248.length + l2.length < 8796093022208 then ((term_Depth.f kj4 l2).bind fun t257 => ((term_Nest.f kj4 l2).bind fun t258 => (selfstablaw05_TermGrows.j1 kj4 (wrap64 (18 + t244)) l3 (y248 ++ l2) (mx t251 t257) (mx t252 t258)))) else (none)) else (selfstablaw05_TermGrows.j1 kj4 (wrap64 (18 + t244)) l3 y248 t251 t252))) = some r := H
          have A29 := Aside0.mk A290
          clear A290
          replace H := Option.bind_eq_some_iff.mp H
          obtain ⟨t253, A300, H⟩ := H
          replace H : (if t253 > 1 then (if y248.length + l2.length < 8796093022208 then ((term_Depth.f kj4 l2).bind fun t257 => ((term_Nest.f kj4 l2).bind fun t258 => (selfstablaw05_TermGrows.j1 kj4 (wrap64 (18 + t244)) l3 (y248 ++ l2) (mx t251 t257) (mx t252 t258)))) else (none)) else (selfstablaw05_TermGrows.j1 kj4 (wrap64 (18 + t244)) l3 y248 t251 t252)) = some r := H
          have A30 := Aside0.mk A300
          clear A300
          have HC31 := Aside0.mk H
          clear H
          go_upto_if 56 with (first | ((with_reducible refine gate_callee (f := 23) rfl ?_); refine goesL_ (some 43) rfl rfl Try.func23 (by kernel_rfl) rfl #[.int .i64 a0, .int .i64 26] rfl (by (try simp only [List.map_toArray, List.map_cons, List.map_nil]); first | done | rfl | (simp only [List.length_drop, List.length_take]; rfl)) ?_; (with_reducible refine (selfstabmade_Mod.calls a0 26 t244 _ A26.out).mono ?_); rintro e w' ⟨rfl, ⟨nd, rfl⟩⟩; refine ⟨_, rfl, ?_⟩) | ((with_reducible refine gate_dst (N := 47) rfl ?_); (try (refine gate_guard (by rfl) ?_; dsimp only)); refine Kd.R_lit k31 _ 31 ?hg (N := 47) ?hd (xs := ([(⟨wrap64 (18 + t244), 0⟩ : S31)] : List (S31))) (inner := [.int .i64 (wrap64 (18 + t244)), .int .i64 0]) (ok := fun _ => True) (okp := fun _ => True) ?hr ?hp (fun _ hk => hk) trivial (Below.refl _ _) (Nat.le_refl _) (by simp) ?_; (case hd => rfl); (case hg => rfl); (case hr => first | (go_simp; done) | (go_simp; rfl)); (case hp => exact (Reps.c2 (show Kd.M k31 _ _ _ (⟨wrap64 (18 + t244), 0⟩ : S31) [.int .i64 (wrap64 (18 + t244)), .int .i64 0] from (k31_mkM _ _ _ (⟨wrap64 (18 + t244), 0⟩ : S31) )) (Reps.none _ _))); intro v246 w32 ho33 hb hg_ hnew_; clear hg_ hnew_; (first | rw [← Ny245.out] at ho33 | (simp only [Int.reduceToNat] at ho33; rw [← Ny245.out] at ho33)); have n0_ := Aside0.mk (Kd.R_lower ho33 (below_size (by repeat (first | (with_reducible first | exact HB.out | apply below_alloc | apply pw_below_drewN | apply below_drew1) | exact HB.out)))); have n1_ := Aside0.mk (below_step (by repeat (first | (with_reducible first | exact HB.out | apply below_alloc | apply pw_below_drewN | apply below_drew1) | exact HB.out)) hb); clear HB; have HO247 := n0_; have HB := n1_; clear n0_ n1_; clear hb ho33) | ((with_reducible refine gate_builtin (b := .append) (xs := #[.tmp 47, .tmp 48]) rfl ?_); (try (refine gate_guard (by rfl) ?_; dsimp only)); at_builtin; refine Kd.R_append_rows k31 (w0 := w) w.heap.size rfl (.tmp 47) (.tmp 48) 22 31 (.agg #[(.int .i64 0), (.int .i64 0)]) 16 rfl Try.underlying22 info31 rfl (by decide) (by omega) v246 y245 l1 _ _ _ (fun _ => True) (fun _ => False) rfl rfl ?aO ?aR (fun _ _ h => h) (fun _ h => h.elim) ?aF ?aB ?aS ?aL ?_; (case aR => (try change Kd.C k31 _ _ _ _); repeat (first | exact (Kd.C_below HR1.out HB.out) | (with_reducible refine Kd.C_alloc ?_ _) | (with_reducible refine Kd.C_drewN ?_ _) | (with_reducible refine Kd.C_drew ?_))); (case aB => exact (by repeat (first | (with_reducible first | exact HB.out | apply below_alloc | apply pw_below_drewN | apply below_drew1) | exact HB.out))); (case aF => exact (fun _ _ => trivial)); (case aO => exact (by (with_reducible repeat (first | apply Kd.R_alloc | apply Kd.R_drewN | apply Kd.R_drew)); exact HO247.out)); (case aS => exact (below_size (by repeat (first | (with_reducible first | exact HB.out | apply below_alloc | apply pw_below_drewN | apply below_drew1) | exact HB.out)))); (case aL => have := LMc27.out; omega); intro v249 w34 ho hb hg hat; rw [← Ny248.out] at ho; have n0_ := Aside0.mk (hb); have n1_ := Aside0.mk (ho); clear HB; clear HO247; have HB := n0_; have HO250 := n1_; clear n0_ n1_; clear ho hb hg hat) | ((with_reducible refine gate_callee (f := 18) rfl ?_); refine goesL_ (some 51) rfl rfl Try.func18 (by kernel_rfl) rfl #[.slice A1 l1.length c1] rfl (by (try simp only [List.map_toArray, List.map_cons, List.map_nil]); first | done | rfl | (simp only [List.length_drop, List.length_take]; rfl)) ?_; (with_reducible refine (term_Depth.calls kj4 _ _ l1 t251 _ ?side1 ?side2 A28.out).mono ?_); (case side1 => repeat (first | exact (Kd.C_below HR1.out HB.out) | (with_reducible refine Kd.C_alloc ?_ _) | (with_reducible refine Kd.C_drewN ?_ _) | (with_reducible refine Kd.C_drew ?_))); (case side2 => exact HC1.out); rintro e w35 ⟨rfl, hb⟩; refine ⟨_, rfl, ?_⟩; have n0_ := Aside0.mk (Kd.R_below (by (with_reducible repeat (first | apply Kd.R_alloc | apply Kd.R_drewN | apply Kd.R_drew)); exact HO250.out) hb); have n1_ := Aside0.mk (below_step (by repeat (first | (with_reducible first | exact HB.out | apply below_alloc | apply pw_below_drewN | apply below_drew1) | exact HB.out)) hb); clear HO250; clear HB; have HO250 := n0_; have HB := n1_; clear n0_ n1_; (try clear hb); (try clear hb2); (try clear hk); (try clear hi)) | ((with_reducible refine gate_callee (f := 20) rfl ?_); refine goesL_ (some 53) rfl rfl Try.func20 (by kernel_rfl) rfl #[.slice A1 l1.length c1] rfl (by (try simp only [List.map_toArray, List.map_cons, List.map_nil]); first | done | rfl | (simp only [List.length_drop, List.length_take]; rfl)) ?_; (with_reducible refine (term_Nest.calls kj4 _ _ l1 t252 _ ?side1 ?side2 A29.out).mono ?_); (case side1 => repeat (first | exact (Kd.C_below HR1.out HB.out) | (with_reducible refine Kd.C_alloc ?_ _) | (with_reducible refine Kd.C_drewN ?_ _) | (with_reducible refine Kd.C_drew ?_))); (case side2 => exact HC1.out); rintro e w36 ⟨rfl, hb⟩; refine ⟨_, rfl, ?_⟩; have n0_ := Aside0.mk (Kd.R_below (by (with_reducible repeat (first | apply Kd.R_alloc | apply Kd.R_drewN | apply Kd.R_drew)); exact HO250.out) hb); have n1_ := Aside0.mk (below_step (by repeat (first | (with_reducible first | exact HB.out | apply below_alloc | apply pw_below_drewN | apply below_drew1) | exact HB.out)) hb); clear HO250; clear HB; have HO250 := n0_; have HB := n1_; clear n0_ n1_; (try clear hb); (try clear hb2); (try clear hk); (try clear hi)) | ((with_reducible refine gate_callee (f := 13) rfl ?_); refine goesL_ (some 55) rfl rfl Try.func13 (by kernel_rfl) rfl #[.int .i64 (wrap64 (18 + t244))] rfl (by (try simp only [List.map_toArray, List.map_cons, List.map_nil]); first | done | rfl | (simp only [List.length_drop, List.length_take]; rfl)) ?_; (with_reducible refine (selfstabref05_Arity.calls kj4 (wrap64 (18 + t244)) t253 _ A30.out).mono ?_); rintro e w' ⟨rfl, ⟨nd, rfl⟩⟩; refine ⟨_, rfl, ?_⟩))
          (try simp only [Act.put, List.setIfInBounds_toArray, List.set_cons_zero, List.set_cons_succ])
          go_cut [9, 10, 11] (fun v9 v10 v11 wc => ∃ (kq : Nat) (x9_30 : List (S31)) (x10_30 : Int) (x11_30 : Int), v10 = .int .i64 x10_30 ∧ v11 = .int .i64 x11_30 ∧ Aside0 (selfstablaw05_TermGrows.j1 kq (wrap64 (18 + t244)) l3 x9_30 x10_30 x11_30 = some r) ∧ Aside0 (kq ≤ kj4) ∧ Aside0 (Kd.R k31 31 wc w.heap.size (fun _ => True) v9 x9_30) ∧ Aside0 (Below w.heap.size w wc))
          case first =>
            have H := HC31.out
            clear HC31
            by_cases c37 : t253 > 1
            · rw [if_pos c37] at H
              have c37b0 : decide (1 < t253) = true := decide_eq_true c37
              clear c37
              (first | rw [c37b0] | (simp only [i64_w, i32_w]; rw [c37b0]) | skip)
              by_cases c38 : y248.length + l2.length < 8796093022208
              · rw [if_pos c38] at H
                have LMc38 := Aside0.mk c38
                clear c38
                obtain ⟨y254, hy254⟩ : ∃ y_ : List (S31), y_ = (y248 ++ l2) := ⟨_, rfl⟩
                replace H : ((term_Depth.f kj4 l2).bind fun t257 => ((term_Nest.f kj4 l2).bind fun t258 => (selfstablaw05_TermGrows.j1 kj4 (wrap64 (18 + t244)) l3 y254 (mx t251 t257) (mx t252 t258)))) = some r := by first | (rw [hy254]; with_reducible exact H) | (have H2_ := (Option.bind_some _ _).symm.trans H; rw [hy254]; with_reducible exact H2_) | (have H2_ := (Option.bind_some _ _).symm.trans H; with_reducible exact H2_) | with_reducible exact H | (rw [hy254]; exact H) | exact H
                have Ny254 := Aside0.mk hy254
                clear hy254
                replace H := Option.bind_eq_some_iff.mp H
                obtain ⟨t257, A390, H⟩ := H
                replace H : ((term_Nest.f kj4 l2).bind fun t258 => (selfstablaw05_TermGrows.j1 kj4 (wrap64 (18 + t244)) l3 y254 (mx t251 t257) (mx t252 t258))) = some r := H
                have A39 := Aside0.mk A390
                clear A390
                obtain ⟨ji40, hji40⟩ : ∃ j_ : Int, (mx t251 t257) = j_ := ⟨_, rfl⟩
                replace H : ((term_Nest.f kj4 l2).bind fun t258 => (selfstablaw05_TermGrows.j1 kj4 (wrap64 (18 + t244)) l3 y254 ji40 (mx t252 t258))) = some r := by first | (rw [hji40] at H; exact H) | (simp only [hji40] at H ⊢; exact H)
                (try rw [hji40] at A39)
                have hji40_ : (if t251 < t257 then t257 else t251) = ji40 := hji40
                replace H := Option.bind_eq_some_iff.mp H
                obtain ⟨t258, A410, H⟩ := H
                replace H : (selfstablaw05_TermGrows.j1 kj4 (wrap64 (18 + t244)) l3 y254 ji40 (mx t252 t258)) = some r := H
                have A41 := Aside0.mk A410
                clear A410
                obtain ⟨ji42, hji42⟩ : ∃ j_ : Int, (mx t252 t258) = j_ := ⟨_, rfl⟩
                replace H : (selfstablaw05_TermGrows.j1 kj4 (wrap64 (18 + t244)) l3 y254 ji40 ji42) = some r := by first | (rw [hji42] at H; exact H) | (simp only [hji42] at H ⊢; exact H)
                (try rw [hji42] at A39)
                (try rw [hji42] at A41)
                have hji42_ : (if t252 < t258 then t258 else t252) = ji42 := hji42
                have H' := Aside0.mk H
                clear H
                go_wp2_with (first | ((with_reducible refine gate_builtin (b := .append) (xs := #[.tmp 57, .tmp 58]) rfl ?_); (try (refine gate_guard (by rfl) ?_; dsimp only)); at_builtin; refine Kd.R_append_rows k31 (w0 := w) w.heap.size rfl (.tmp 57) (.tmp 58) 22 31 (.agg #[(.int .i64 0), (.int .i64 0)]) 16 rfl Try.underlying22 info31 rfl (by decide) (by omega) v249 y248 l2 _ _ _ (fun _ => True) (fun _ => False) rfl rfl ?aO ?aR (fun _ _ h => h) (fun _ h => h.elim) ?aF ?aB ?aS ?aL ?_; (case aR => (try change Kd.C k31 _ _ _ _); repeat (first | exact (Kd.C_below HR2.out HB.out) | (with_reducible refine Kd.C_alloc ?_ _) | (with_reducible refine Kd.C_drewN ?_ _) | (with_reducible refine Kd.C_drew ?_))); (case aB => exact (by repeat (first | (with_reducible first | exact HB.out | apply below_alloc | apply pw_below_drewN | apply below_drew1) | exact HB.out))); (case aF => exact (fun _ _ => trivial)); (case aO => exact (by (with_reducible repeat (first | apply Kd.R_alloc | apply Kd.R_drewN | apply Kd.R_drew)); exact HO250.out)); (case aS => exact (below_size (by repeat (first | (with_reducible first | exact HB.out | apply below_alloc | apply pw_below_drewN | apply below_drew1) | exact HB.out)))); (case aL => have := LMc38.out; omega); intro v255 w43 ho hb hg hat; rw [← Ny254.out] at ho; have n0_ := Aside0.mk (hb); have n1_ := Aside0.mk (ho); clear HB; clear HO250; have HB := n0_; have HO256 := n1_; clear n0_ n1_; clear ho hb hg hat) | ((with_reducible refine gate_callee (f := 18) rfl ?_); refine goesL_ (some 62) rfl rfl Try.func18 (by kernel_rfl) rfl #[.slice A2 l2.length c2] rfl (by (try simp only [List.map_toArray, List.map_cons, List.map_nil]); first | done | rfl | (simp only [List.length_drop, List.length_take]; rfl)) ?_; (with_reducible refine (term_Depth.calls kj4 _ _ l2 t257 _ ?side1 ?side2 A39.out).mono ?_); (case side1 => repeat (first | exact (Kd.C_below HR2.out HB.out) | (with_reducible refine Kd.C_alloc ?_ _) | (with_reducible refine Kd.C_drewN ?_ _) | (with_reducible refine Kd.C_drew ?_))); (case side2 => exact HC2.out); rintro e w44 ⟨rfl, hb⟩; refine ⟨_, rfl, ?_⟩; have n0_ := Aside0.mk (Kd.R_below (by (with_reducible repeat (first | apply Kd.R_alloc | apply Kd.R_drewN | apply Kd.R_drew)); exact HO256.out) hb); have n1_ := Aside0.mk (below_step (by repeat (first | (with_reducible first | exact HB.out | apply below_alloc | apply pw_below_drewN | apply below_drew1) | exact HB.out)) hb); clear HO256; clear HB; have HO256 := n0_; have HB := n1_; clear n0_ n1_; (try clear hb); (try clear hb2); (try clear hk); (try clear hi)) | ((with_reducible refine gate_callee (f := 20) rfl ?_); refine goesL_ (some 66) rfl rfl Try.func20 (by kernel_rfl) rfl #[.slice A2 l2.length c2] rfl (by (try simp only [List.map_toArray, List.map_cons, List.map_nil]); first | done | rfl | (simp only [List.length_drop, List.length_take]; rfl)) ?_; (with_reducible refine (term_Nest.calls kj4 _ _ l2 t258 _ ?side1 ?side2 A41.out).mono ?_); (case side1 => repeat (first | exact (Kd.C_below HR2.out HB.out) | (with_reducible refine Kd.C_alloc ?_ _) | (with_reducible refine Kd.C_drewN ?_ _) | (with_reducible refine Kd.C_drew ?_))); (case side2 => exact HC2.out); rintro e w45 ⟨rfl, hb⟩; refine ⟨_, rfl, ?_⟩; have n0_ := Aside0.mk (Kd.R_below (by (with_reducible repeat (first | apply Kd.R_alloc | apply Kd.R_drewN | apply Kd.R_drew)); exact HO256.out) hb); have n1_ := Aside0.mk (below_step (by repeat (first | (with_reducible first | exact HB.out | apply below_alloc | apply pw_below_drewN | apply below_drew1) | exact HB.out)) hb); clear HO256; clear HB; have HO256 := n0_; have HB := n1_; clear n0_ n1_; (try clear hb); (try clear hb2); (try clear hk); (try clear hi)))
                go_meet
                case rel => exact ⟨_, (y254), (ji40), (ji42), (by first | rfl | (simp; done) | (simp only [← hji40] <;> (first | rfl | simp)) | (simp [*]; done)), (by first | rfl | (simp; done) | (simp only [← hji42] <;> (first | rfl | simp)) | (simp [*]; done)), H', ⟨by have := HJ4.out; first | omega | exact Nat.le_refl _⟩, ⟨by (with_reducible repeat (first | apply Kd.R_alloc | apply Kd.R_drewN | apply Kd.R_drew)); exact HO256.out⟩, ⟨by repeat (first | (with_reducible first | exact HB.out | apply below_alloc | apply pw_below_drewN | apply below_drew1) | exact HB.out)⟩⟩
              · rw [if_neg c38] at H
                exact absurd H (by simp)
            · rw [if_neg c37] at H
              have c37b0 : decide (1 < t253) = false := decide_eq_false c37
              clear c37
              (first | rw [c37b0] | (simp only [i64_w, i32_w]; rw [c37b0]) | skip)
              have H' := Aside0.mk H
              clear H
              go_wp2
              go_meet
              case rel => exact ⟨_, (y248), (t251), (t252), (by first | rfl | (simp; done) | (simp [*]; done)), (by first | rfl | (simp; done) | (simp [*]; done)), H', ⟨by have := HJ4.out; first | omega | exact Nat.le_refl _⟩, ⟨by (with_reducible repeat (first | apply Kd.R_alloc | apply Kd.R_drewN | apply Kd.R_drew)); exact HO250.out⟩, ⟨by repeat (first | (with_reducible first | exact HB.out | apply below_alloc | apply pw_below_drewN | apply below_drew1) | exact HB.out)⟩⟩
          case rest =>
            clear HC31
            try clear c1
            try clear c2
            try clear p2
            try clear c3
            try clear c6
            try clear p6
            try clear c7
            try clear c9
            try clear c10
            try clear c11
            try clear c13
            try clear c15
            try clear c18
            try clear c20
            try clear c23
            try clear c27
            try clear c37
            try clear c37b0
            try clear c38
            try clear p2
            obtain ⟨kq, x9_30, x10_30, x11_30, rfl, rfl, HA, HJ30, HO_9, HB⟩ := hcut
            cases kq with
            | zero => exact absurd HA.out (by simp [selfstablaw05_TermGrows.j1])
            | succ kj30 =>
              have H := HA.out
              clear HA
              simp only [selfstablaw05_TermGrows.j1] at H
              replace H := Option.bind_eq_some_iff.mp H
              obtain ⟨t259, A460, H⟩ := H
              replace H : (if t259 > 2 then (if x9_30.length + l3.length < 8796093022208 then ((term_Depth.f kj30 l3).bind fun t263 => ((term_Nest.f kj30 l3).bind fun t264 => (selfstablaw05_TermGrows.j2 kj30 (wrap64 (18 + t244)) (x9_30 ++ l3) (mx x10_30 t263) (mx x11_30 t264)))) else (none)) else (selfstablaw05_TermGrows.j2 kj30 (wrap64 (18 + t244)) x9_30 x10_30 x11_30)) = some r := H
              have A46 := Aside0.mk A460
              clear A460
              have HC47 := Aside0.mk H
              clear H
              go_upto_if 70 with (first | ((with_reducible refine gate_callee (f := 13) rfl ?_); refine goesL_ (some 69) rfl rfl Try.func13 (by kernel_rfl) rfl #[.int .i64 (wrap64 (18 + t244))] rfl (by (try simp only [List.map_toArray, List.map_cons, List.map_nil]); first | done | rfl | (simp only [List.length_drop, List.length_take]; rfl)) ?_; (with_reducible refine (selfstabref05_Arity.calls kj30 (wrap64 (18 + t244)) t259 _ A46.out).mono ?_); rintro e w' ⟨rfl, ⟨nd, rfl⟩⟩; refine ⟨_, rfl, ?_⟩))
              (try simp only [Act.put, List.setIfInBounds_toArray, List.set_cons_zero, List.set_cons_succ])
              go_cut [9, 10, 11] (fun v9 v10 v11 wc => ∃ (kq : Nat) (x9_46 : List (S31)) (x10_46 : Int) (x11_46 : Int), v10 = .int .i64 x10_46 ∧ v11 = .int .i64 x11_46 ∧ Aside0 (selfstablaw05_TermGrows.j2 kq (wrap64 (18 + t244)) x9_46 x10_46 x11_46 = some r) ∧ Aside0 (kq ≤ kj30) ∧ Aside0 (Kd.R k31 31 wc w.heap.size (fun _ => True) v9 x9_46) ∧ Aside0 (Below w.heap.size w wc))
              case first =>
                have H := HC47.out
                clear HC47
                by_cases c48 : t259 > 2
                · rw [if_pos c48] at H
                  have c48b0 : decide (2 < t259) = true := decide_eq_true c48
                  clear c48
                  (first | rw [c48b0] | (simp only [i64_w, i32_w]; rw [c48b0]) | skip)
                  by_cases c49 : x9_30.length + l3.length < 8796093022208
                  · rw [if_pos c49] at H
                    have LMc49 := Aside0.mk c49
                    clear c49
                    obtain ⟨y260, hy260⟩ : ∃ y_ : List (S31), y_ = (x9_30 ++ l3) := ⟨_, rfl⟩
                    replace H : ((term_Depth.f kj30 l3).bind fun t263 => ((term_Nest.f kj30 l3).bind fun t264 => (selfstablaw05_TermGrows.j2 kj30 (wrap64 (18 + t244)) y260 (mx x10_30 t263) (mx x11_30 t264)))) = some r := by first | (rw [hy260]; with_reducible exact H) | (have H2_ := (Option.bind_some _ _).symm.trans H; rw [hy260]; with_reducible exact H2_) | (have H2_ := (Option.bind_some _ _).symm.trans H; with_reducible exact H2_) | with_reducible exact H | (rw [hy260]; exact H) | exact H
                    have Ny260 := Aside0.mk hy260
                    clear hy260
                    replace H := Option.bind_eq_some_iff.mp H
                    obtain ⟨t263, A500, H⟩ := H
                    replace H : ((term_Nest.f kj30 l3).bind fun t264 => (selfstablaw05_TermGrows.j2 kj30 (wrap64 (18 + t244)) y260 (mx x10_30 t263) (mx x11_30 t264))) = some r := H
                    have A50 := Aside0.mk A500
                    clear A500
                    obtain ⟨ji51, hji51⟩ : ∃ j_ : Int, (mx x10_30 t263) = j_ := ⟨_, rfl⟩
                    replace H : ((term_Nest.f kj30 l3).bind fun t264 => (selfstablaw05_TermGrows.j2 kj30 (wrap64 (18 + t244)) y260 ji51 (mx x11_30 t264))) = some r := by first | (rw [hji51] at H; exact H) | (simp only [hji51] at H ⊢; exact H)
                    (try rw [hji51] at A50)
                    have hji51_ : (if x10_30 < t263 then t263 else x10_30) = ji51 := hji51
                    replace H := Option.bind_eq_some_iff.mp H
                    obtain ⟨t264, A520, H⟩ := H
                    replace H : (selfstablaw05_TermGrows.j2 kj30 (wrap64 (18 + t244)) y260 ji51 (mx x11_30 t264)) = some r := H
                    have A52 := Aside0.mk A520
                    clear A520
                    obtain ⟨ji53, hji53⟩ : ∃ j_ : Int, (mx x11_30 t264) = j_ := ⟨_, rfl⟩
                    replace H : (selfstablaw05_TermGrows.j2 kj30 (wrap64 (18 + t244)) y260 ji51 ji53) = some r := by first | (rw [hji53] at H; exact H) | (simp only [hji53] at H ⊢; exact H)
                    (try rw [hji53] at A50)
                    (try rw [hji53] at A52)
                    have hji53_ : (if x11_30 < t264 then t264 else x11_30) = ji53 := hji53
                    have H' := Aside0.mk H
                    clear H
                    go_wp2_with (first | ((with_reducible refine gate_builtin (b := .append) (xs := #[.tmp 71, .tmp 72]) rfl ?_); (try (refine gate_guard (by rfl) ?_; dsimp only)); at_builtin; refine Kd.R_append_rows k31 (w0 := w) w.heap.size rfl (.tmp 71) (.tmp 72) 22 31 (.agg #[(.int .i64 0), (.int .i64 0)]) 16 rfl Try.underlying22 info31 rfl (by decide) (by omega) u9 x9_30 l3 _ _ _ (fun _ => True) (fun _ => False) rfl rfl ?aO ?aR (fun _ _ h => h) (fun _ h => h.elim) ?aF ?aB ?aS ?aL ?_; (case aR => (try change Kd.C k31 _ _ _ _); repeat (first | exact (Kd.C_below HR3.out HB.out) | (with_reducible refine Kd.C_alloc ?_ _) | (with_reducible refine Kd.C_drewN ?_ _) | (with_reducible refine Kd.C_drew ?_))); (case aB => exact (by repeat (first | (with_reducible first | exact HB.out | apply below_alloc | apply pw_below_drewN | apply below_drew1) | exact HB.out))); (case aF => exact (fun _ _ => trivial)); (case aO => exact (by (with_reducible repeat (first | apply Kd.R_alloc | apply Kd.R_drewN | apply Kd.R_drew)); exact HO_9.out)); (case aS => exact (below_size (by repeat (first | (with_reducible first | exact HB.out | apply below_alloc | apply pw_below_drewN | apply below_drew1) | exact HB.out)))); (case aL => have := LMc49.out; omega); intro v261 w54 ho hb hg hat; rw [← Ny260.out] at ho; have n0_ := Aside0.mk (hb); have n1_ := Aside0.mk (ho); clear HB; clear HO_9; have HB := n0_; have HO262 := n1_; clear n0_ n1_; clear ho hb hg hat) | ((with_reducible refine gate_callee (f := 18) rfl ?_); refine goesL_ (some 76) rfl rfl Try.func18 (by kernel_rfl) rfl #[.slice A3 l3.length c3] rfl (by (try simp only [List.map_toArray, List.map_cons, List.map_nil]); first | done | rfl | (simp only [List.length_drop, List.length_take]; rfl)) ?_; (with_reducible refine (term_Depth.calls kj30 _ _ l3 t263 _ ?side1 ?side2 A50.out).mono ?_); (case side1 => repeat (first | exact (Kd.C_below HR3.out HB.out) | (with_reducible refine Kd.C_alloc ?_ _) | (with_reducible refine Kd.C_drewN ?_ _) | (with_reducible refine Kd.C_drew ?_))); (case side2 => exact HC3.out); rintro e w55 ⟨rfl, hb⟩; refine ⟨_, rfl, ?_⟩; have n0_ := Aside0.mk (Kd.R_below (by (with_reducible repeat (first | apply Kd.R_alloc | apply Kd.R_drewN | apply Kd.R_drew)); exact HO262.out) hb); have n1_ := Aside0.mk (below_step (by repeat (first | (with_reducible first | exact HB.out | apply below_alloc | apply pw_below_drewN | apply below_drew1) | exact HB.out)) hb); clear HO262; clear HB; have HO262 := n0_; have HB := n1_; clear n0_ n1_; (try clear hb); (try clear hb2); (try clear hk); (try clear hi)) | ((with_reducible refine gate_callee (f := 20) rfl ?_); refine goesL_ (some 80) rfl rfl Try.func20 (by kernel_rfl) rfl #[.slice A3 l3.length c3] rfl (by (try simp only [List.map_toArray, List.map_cons, List.map_nil]); first | done | rfl | (simp only [List.length_drop, List.length_take]; rfl)) ?_; (with_reducible refine (term_Nest.calls kj30 _ _ l3 t264 _ ?side1 ?side2 A52.out).mono ?_); (case side1 => repeat (first | exact (Kd.C_below HR3.out HB.out) | (with_reducible refine Kd.C_alloc ?_ _) | (with_reducible refine Kd.C_drewN ?_ _) | (with_reducible refine Kd.C_drew ?_))); (case side2 => exact HC3.out); rintro e w56 ⟨rfl, hb⟩; refine ⟨_, rfl, ?_⟩; have n0_ := Aside0.mk (Kd.R_below (by (with_reducible repeat (first | apply Kd.R_alloc | apply Kd.R_drewN | apply Kd.R_drew)); exact HO262.out) hb); have n1_ := Aside0.mk (below_step (by repeat (first | (with_reducible first | exact HB.out | apply below_alloc | apply pw_below_drewN | apply below_drew1) | exact HB.out)) hb); clear HO262; clear HB; have HO262 := n0_; have HB := n1_; clear n0_ n1_; (try clear hb); (try clear hb2); (try clear hk); (try clear hi)))
                    go_meet
                    case rel => exact ⟨_, (y260), (ji51), (ji53), (by first | rfl | (simp; done) | (simp only [← hji51] <;> (first | rfl | simp)) | (simp [*]; done)), (by first | rfl | (simp; done) | (simp only [← hji53] <;> (first | rfl | simp)) | (simp [*]; done)), H', ⟨by have := HJ4.out; have := HJ30.out; first | omega | exact Nat.le_refl _⟩, ⟨by (with_reducible repeat (first | apply Kd.R_alloc | apply Kd.R_drewN | apply Kd.R_drew)); exact HO262.out⟩, ⟨by repeat (first | (with_reducible first | exact HB.out | apply below_alloc | apply pw_below_drewN | apply below_drew1) | exact HB.out)⟩⟩
                  · rw [if_neg c49] at H
                    exact absurd H (by simp)
                · rw [if_neg c48] at H
                  have c48b0 : decide (2 < t259) = false := decide_eq_false c48
                  clear c48
                  (first | rw [c48b0] | (simp only [i64_w, i32_w]; rw [c48b0]) | skip)
                  have H' := Aside0.mk H
                  clear H
                  go_wp2
                  go_meet
                  case rel => exact ⟨_, (x9_30), (x10_30), (x11_30), (by first | rfl | (simp; done) | (simp [*]; done)), (by first | rfl | (simp; done) | (simp [*]; done)), H', ⟨by have := HJ4.out; have := HJ30.out; first | omega | exact Nat.le_refl _⟩, ⟨by (with_reducible repeat (first | apply Kd.R_alloc | apply Kd.R_drewN | apply Kd.R_drew)); exact HO_9.out⟩, ⟨by repeat (first | (with_reducible first | exact HB.out | apply below_alloc | apply pw_below_drewN | apply below_drew1) | exact HB.out)⟩⟩
              case rest =>
                clear HC47
                try clear c1
                try clear c2
                try clear p2
                try clear c3
                try clear c4
                try clear c6
                try clear p6
                try clear c7
                try clear c9
                try clear c10
                try clear c11
                try clear c13
                try clear c15
                try clear c18
                try clear c20
                try clear c23
                try clear c27
                try clear c37
                try clear c37b0
                try clear c38
                try clear c48
                try clear c48b0
                try clear c49
                try clear p2
                try clear p6
                obtain ⟨kq, x9_46, x10_46, x11_46, rfl, rfl, HA, HJ46, HO_9, HB⟩ := hcut
                cases kq with
                | zero => exact absurd HA.out (by simp [selfstablaw05_TermGrows.j2])
                | succ kj46 =>
                  have H := HA.out
                  clear HA
                  simp only [selfstablaw05_TermGrows.j2] at H
                  replace H := Option.bind_eq_some_iff.mp H
                  obtain ⟨t265, A570, H⟩ := H
                  replace H : (if t265 = true then (selfstablaw05_TermGrows.j3 kj46 x9_46 x10_46 (wrap64 (x11_46 + 1))) else (selfstablaw05_TermGrows.j3 kj46 x9_46 x10_46 x11_46)) = some r := H
                  have A57 := Aside0.mk A570
                  clear A570
                  have HC58 := Aside0.mk H
                  clear H
                  go_upto_if 83 with (first | ((with_reducible refine gate_callee (f := 25) rfl ?_); refine goesL_ (some 83) rfl rfl Try.func25 (by kernel_rfl) rfl #[.int .i64 (wrap64 (18 + t244))] rfl (by (try simp only [List.map_toArray, List.map_cons, List.map_nil]); first | done | rfl | (simp only [List.length_drop, List.length_take]; rfl)) ?_; (with_reducible refine (selfstabref05_Aggregate.calls (wrap64 (18 + t244)) t265 _ A57.out).mono ?_); rintro e w' ⟨rfl, ⟨nd, rfl⟩⟩; refine ⟨_, rfl, ?_⟩))
                  (try simp only [Act.put, List.setIfInBounds_toArray, List.set_cons_zero, List.set_cons_succ])
                  go_cut [11] (fun v11 wc => ∃ (kq : Nat) (x11_57 : Int), v11 = .int .i64 x11_57 ∧ Aside0 (selfstablaw05_TermGrows.j3 kq x9_46 x10_46 x11_57 = some r) ∧ Aside0 (kq ≤ kj46) ∧ Aside0 (Kd.R k31 31 wc w.heap.size (fun _ => True) u9 x9_46) ∧ Aside0 (Below w.heap.size w wc))
                  case first =>
                    have H := HC58.out
                    clear HC58
                    by_cases c59 : t265 = true
                    · subst c59
                      have H1 : (selfstablaw05_TermGrows.j3 kj46 x9_46 x10_46 (wrap64 (x11_46 + 1))) = some r := by rw [if_pos rfl] at H; exact H
                      clear H
                      have H := H1
                      clear H1
                      have H' := Aside0.mk H
                      clear H
                      go_wp2
                      go_meet
                      case rel => exact ⟨_, (wrap64 (x11_46 + 1)), (by first | rfl | (simp; done) | (simp [*]; done)), H', ⟨by have := HJ4.out; have := HJ30.out; have := HJ46.out; first | omega | exact Nat.le_refl _⟩, ⟨by (with_reducible repeat (first | apply Kd.R_alloc | apply Kd.R_drewN | apply Kd.R_drew)); exact HO_9.out⟩, ⟨by repeat (first | (with_reducible first | exact HB.out | apply below_alloc | apply pw_below_drewN | apply below_drew1) | exact HB.out)⟩⟩
                    · replace c59 := Bool.eq_false_iff.mpr c59
                      subst c59
                      have H1 : (selfstablaw05_TermGrows.j3 kj46 x9_46 x10_46 x11_46) = some r := by rw [if_neg (show ¬ (false = true) by decide)] at H; exact H
                      clear H
                      have H := H1
                      clear H1
                      have H' := Aside0.mk H
                      clear H
                      go_wp2
                      go_meet
                      case rel => exact ⟨_, (x11_46), (by first | rfl | (simp; done) | (simp [*]; done)), H', ⟨by have := HJ4.out; have := HJ30.out; have := HJ46.out; first | omega | exact Nat.le_refl _⟩, ⟨by (with_reducible repeat (first | apply Kd.R_alloc | apply Kd.R_drewN | apply Kd.R_drew)); exact HO_9.out⟩, ⟨by repeat (first | (with_reducible first | exact HB.out | apply below_alloc | apply pw_below_drewN | apply below_drew1) | exact HB.out)⟩⟩
                  case rest =>
                    clear HC58
                    try clear c1
                    try clear c2
                    try clear p2
                    try clear c3
                    try clear c4
                    try clear c5
                    try clear c6
                    try clear p6
                    try clear c7
                    try clear c9
                    try clear c10
                    try clear c11
                    try clear c13
                    try clear c15
                    try clear c18
                    try clear c20
                    try clear c23
                    try clear c25
                    try clear c27
                    try clear c37
                    try clear c37b0
                    try clear c38
                    try clear c48
                    try clear c48b0
                    try clear c49
                    try clear c59
                    try clear p2
                    try clear p6
                    obtain ⟨kq, x11_57, rfl, HA, HJ57, HO_9, HB⟩ := hcut
                    cases kq with
                    | zero => exact absurd HA.out (by simp [selfstablaw05_TermGrows.j3])
                    | succ kj57 =>
                      have H := HA.out
                      clear HA
                      simp only [selfstablaw05_TermGrows.j3] at H
                      have HC60 := Aside0.mk H
                      clear H
                      go_upto_region 14 with (fail)
                      go_cut [12] (fun v12 wc => ∃ (kq : Nat) (x12_59 : Bool), v12 = .bool x12_59 ∧ Aside0 (selfstablaw05_TermGrows.j4 kq x9_46 x10_46 x11_57 x12_59 = some r) ∧ Aside0 (kq ≤ kj57) ∧ Aside0 (Kd.R k31 31 wc w.heap.size (fun _ => True) u9 x9_46) ∧ Aside0 (Below w.heap.size w wc))
                      case first =>
                        have H := HC60.out
                        clear HC60
                        by_cases c61 : (x9_46.length : Int) ≤ 200
                        · rw [if_pos c61] at H
                          have c61b0 : decide ((x9_46.length : Int) ≤ 200) = true := decide_eq_true c61
                          have c61b1 : decide (x9_46.length ≤ 200) = true := decide_eq_true (by omega)
                          clear c61
                          (first | rw [c61b0] | (simp only [i64_w, i32_w]; rw [c61b0]) | skip)
                          by_cases c62 : x10_46 < 24
                          · rw [if_pos c62] at H
                            have c62b0 : decide (x10_46 < 24) = true := decide_eq_true c62
                            clear c62
                            have H' := Aside0.mk H
                            clear H
                            obtain ⟨Ao63, co63, eo63⟩ := Kd.R_slice HO_9.out
                            subst eo63
                            go_wp2
                            go_meet
                            case rel => exact ⟨_, (decide (x11_57 ≤ 2)), (by first | rfl | (simp; done) | (simp [*]; done)), H', ⟨by have := HJ4.out; have := HJ30.out; have := HJ46.out; have := HJ57.out; first | omega | exact Nat.le_refl _⟩, ⟨by (with_reducible repeat (first | apply Kd.R_alloc | apply Kd.R_drewN | apply Kd.R_drew)); exact HO_9.out⟩, ⟨by repeat (first | (with_reducible first | exact HB.out | apply below_alloc | apply pw_below_drewN | apply below_drew1) | exact HB.out)⟩⟩
                          · rw [if_neg c62] at H
                            have c62b0 : decide (x10_46 < 24) = false := decide_eq_false c62
                            clear c62
                            have H' := Aside0.mk H
                            clear H
                            obtain ⟨Ao64, co64, eo64⟩ := Kd.R_slice HO_9.out
                            subst eo64
                            go_wp2
                            go_meet
                            case rel => exact ⟨_, (false), (by first | rfl | (simp; done) | (simp [*]; done)), H', ⟨by have := HJ4.out; have := HJ30.out; have := HJ46.out; have := HJ57.out; first | omega | exact Nat.le_refl _⟩, ⟨by (with_reducible repeat (first | apply Kd.R_alloc | apply Kd.R_drewN | apply Kd.R_drew)); exact HO_9.out⟩, ⟨by repeat (first | (with_reducible first | exact HB.out | apply below_alloc | apply pw_below_drewN | apply below_drew1) | exact HB.out)⟩⟩
                        · rw [if_neg c61] at H
                          have c61b0 : decide ((x9_46.length : Int) ≤ 200) = false := decide_eq_false c61
                          have c61b1 : decide (x9_46.length ≤ 200) = false := decide_eq_false (by omega)
                          clear c61
                          (first | rw [c61b0] | (simp only [i64_w, i32_w]; rw [c61b0]) | skip)
                          have H' := Aside0.mk H
                          clear H
                          obtain ⟨Ao65, co65, eo65⟩ := Kd.R_slice HO_9.out
                          subst eo65
                          go_wp2
                          go_meet
                          case rel => exact ⟨_, (false), (by first | rfl | (simp; done) | (simp [*]; done)), H', ⟨by have := HJ4.out; have := HJ30.out; have := HJ46.out; have := HJ57.out; first | omega | exact Nat.le_refl _⟩, ⟨by (with_reducible repeat (first | apply Kd.R_alloc | apply Kd.R_drewN | apply Kd.R_drew)); exact HO_9.out⟩, ⟨by repeat (first | (with_reducible first | exact HB.out | apply below_alloc | apply pw_below_drewN | apply below_drew1) | exact HB.out)⟩⟩
                      case rest =>
                        clear HC60
                        try clear c1
                        try clear c2
                        try clear p2
                        try clear c3
                        try clear c4
                        try clear c5
                        try clear c6
                        try clear p6
                        try clear c7
                        try clear c9
                        try clear c10
                        try clear c11
                        try clear c13
                        try clear c15
                        try clear c18
                        try clear c20
                        try clear c23
                        try clear c25
                        try clear c27
                        try clear c37
                        try clear c37b0
                        try clear c38
                        try clear c48
                        try clear c48b0
                        try clear c49
                        try clear c59
                        try clear c61
                        try clear c61b0
                        try clear c61b1
                        try clear c62
                        try clear c62b0
                        try clear p64
                        try clear p2
                        try clear p6
                        obtain ⟨kq, x12_59, rfl, HA, HJ59, HO_9, HB⟩ := hcut
                        cases kq with
                        | zero => exact absurd HA.out (by simp [selfstablaw05_TermGrows.j4])
                        | succ kj59 =>
                          have H := HA.out
                          clear HA
                          simp only [selfstablaw05_TermGrows.j4] at H
                          replace H := Option.bind_eq_some_iff.mp H
                          obtain ⟨t266, A660, H⟩ := H
                          replace H : (if t266 = true then ((term_Depth.f kj59 x9_46).bind fun t267 => (if t267 = (wrap64 (x10_46 + 1)) then ((term_Nest.f kj59 x9_46).bind fun t268 => (if t268 = x11_57 then ((term_End.f kj59 x9_46 0).bind fun t269 => (if t269 = (x9_46.length : Int) then ((term_Valid.f kj59 x9_46 6).bind fun t270 => (some (t270 == x12_59))) else (some false))) else (some false))) else (some false))) else (some false)) = some r := H
                          have A66 := Aside0.mk A660
                          clear A660
                          by_cases c67 : t266 = true
                          · subst c67
                            have H1 : ((term_Depth.f kj59 x9_46).bind fun t267 => (if t267 = (wrap64 (x10_46 + 1)) then ((term_Nest.f kj59 x9_46).bind fun t268 => (if t268 = x11_57 then ((term_End.f kj59 x9_46 0).bind fun t269 => (if t269 = (x9_46.length : Int) then ((term_Valid.f kj59 x9_46 6).bind fun t270 => (some (t270 == x12_59))) else (some false))) else (some false))) else (some false))) = some r := by rw [if_pos rfl] at H; exact H
                            clear H
                            have H := H1
                            clear H1
                            replace H := Option.bind_eq_some_iff.mp H
                            obtain ⟨t267, A680, H⟩ := H
                            replace H : (if t267 = (wrap64 (x10_46 + 1)) then ((term_Nest.f kj59 x9_46).bind fun t268 => (if t268 = x11_57 then ((term_End.f kj59 x9_46 0).bind fun t269 => (if t269 = (x9_46.length : Int) then ((term_Valid.f kj59 x9_46 6).bind fun t270 => (some (t270 == x12_59))) else (some false))) else (some false))) else (some false)) = some r := H
                            have A68 := Aside0.mk A680
                            clear A680
                            by_cases c69 : t267 = (wrap64 (x10_46 + 1))
                            · rw [if_pos c69] at H
                              have c69b0 : (t267 == (wrap64 (x10_46 + 1))) = true := beq_iff_eq.mpr c69
                              have c69b1 : (t267 != (wrap64 (x10_46 + 1))) = false := bne_eq_false_iff_eq.mpr c69
                              clear c69
                              replace H := Option.bind_eq_some_iff.mp H
                              obtain ⟨t268, A700, H⟩ := H
                              replace H : (if t268 = x11_57 then ((term_End.f kj59 x9_46 0).bind fun t269 => (if t269 = (x9_46.length : Int) then ((term_Valid.f kj59 x9_46 6).bind fun t270 => (some (t270 == x12_59))) else (some false))) else (some false)) = some r := H
                              have A70 := Aside0.mk A700
                              clear A700
                              by_cases c71 : t268 = x11_57
                              · rw [if_pos c71] at H
                                have c71b0 : (t268 == x11_57) = true := beq_iff_eq.mpr c71
                                have c71b1 : (t268 != x11_57) = false := bne_eq_false_iff_eq.mpr c71
                                clear c71
                                replace H := Option.bind_eq_some_iff.mp H
                                obtain ⟨t269, A720, H⟩ := H
                                replace H : (if t269 = (x9_46.length : Int) then ((term_Valid.f kj59 x9_46 6).bind fun t270 => (some (t270 == x12_59))) else (some false)) = some r := H
                                have A72 := Aside0.mk A720
                                clear A720
                                by_cases c73 : t269 = (x9_46.length : Int)
                                · rw [if_pos c73] at H
                                  have c73b0 : (t269 == (x9_46.length : Int)) = true := beq_iff_eq.mpr c73
                                  have c73b1 : (t269 != (x9_46.length : Int)) = false := bne_eq_false_iff_eq.mpr c73
                                  clear c73
                                  replace H := Option.bind_eq_some_iff.mp H
                                  obtain ⟨t270, A740, H⟩ := H
                                  replace H : (some (t270 == x12_59)) = some r := H
                                  have A74 := Aside0.mk A740
                                  clear A740
                                  obtain rfl := Option.some.inj H
                                  go_wp2_with (first | ((with_reducible refine gate_callee (f := 11) rfl ?_); refine goesL_ (some 97) rfl rfl Try.func11 (by kernel_rfl) rfl #[] rfl (by (try simp only [List.map_toArray, List.map_cons, List.map_nil]); first | done | rfl | (simp only [List.length_drop, List.length_take]; rfl)) ?_; (with_reducible refine (selfstablaw05_awake.calls kj59  true _ A66.out).mono ?_); rintro e w75 ⟨rfl, hb⟩; refine ⟨_, rfl, ?_⟩; have n0_ := Aside0.mk (Kd.R_below (by (with_reducible repeat (first | apply Kd.R_alloc | apply Kd.R_drewN | apply Kd.R_drew)); exact HO_9.out) hb); have n1_ := Aside0.mk (below_step (by repeat (first | (with_reducible first | exact HB.out | apply below_alloc | apply pw_below_drewN | apply below_drew1) | exact HB.out)) hb); clear HO_9; clear HB; have HO_9 := n0_; have HB := n1_; clear n0_ n1_; (try clear hb); (try clear hb2); (try clear hk); (try clear hi); obtain ⟨Ao76, co76, eo76⟩ := Kd.R_slice HO_9.out; subst eo76) | (go_at_call 18; (with_reducible refine (term_Depth.calls kj59 _ _ x9_46 t267 _ ?side1 ?side2 A68.out).mono ?_); (case side1 => repeat (first | exact (Kd.R_reads' HO_9.out).2.2 | (with_reducible refine Kd.C_alloc ?_ _) | (with_reducible refine Kd.C_drewN ?_ _) | (with_reducible refine Kd.C_drew ?_))); (case side2 => exact (Kd.R_reads' HO_9.out).2.1); rintro e w77 ⟨rfl, hb⟩; have n0_ := Aside0.mk (Kd.R_below (by (with_reducible repeat (first | apply Kd.R_alloc | apply Kd.R_drewN | apply Kd.R_drew)); exact HO_9.out) hb); have n1_ := Aside0.mk (below_step (by repeat (first | (with_reducible first | exact HB.out | apply below_alloc | apply pw_below_drewN | apply below_drew1) | exact HB.out)) hb); clear HO_9; clear HB; have HO_9 := n0_; have HB := n1_; clear n0_ n1_; (try clear hb); (try clear hb2); (try clear hk); (try clear hi)) | (go_at_call 20; (with_reducible refine (term_Nest.calls kj59 _ _ x9_46 t268 _ ?side1 ?side2 A70.out).mono ?_); (case side1 => repeat (first | exact (Kd.R_reads' HO_9.out).2.2 | (with_reducible refine Kd.C_alloc ?_ _) | (with_reducible refine Kd.C_drewN ?_ _) | (with_reducible refine Kd.C_drew ?_))); (case side2 => exact (Kd.R_reads' HO_9.out).2.1); rintro e w78 ⟨rfl, hb⟩; have n0_ := Aside0.mk (Kd.R_below (by (with_reducible repeat (first | apply Kd.R_alloc | apply Kd.R_drewN | apply Kd.R_drew)); exact HO_9.out) hb); have n1_ := Aside0.mk (below_step (by repeat (first | (with_reducible first | exact HB.out | apply below_alloc | apply pw_below_drewN | apply below_drew1) | exact HB.out)) hb); clear HO_9; clear HB; have HO_9 := n0_; have HB := n1_; clear n0_ n1_; (try clear hb); (try clear hb2); (try clear hk); (try clear hi)) | (go_at_call 14; (with_reducible refine (term_End.calls kj59 _ _ x9_46 0 t269 _ ?side1 ?side2 A72.out).mono ?_); (case side1 => repeat (first | exact (Kd.R_reads' HO_9.out).2.2 | (with_reducible refine Kd.C_alloc ?_ _) | (with_reducible refine Kd.C_drewN ?_ _) | (with_reducible refine Kd.C_drew ?_))); (case side2 => exact (Kd.R_reads' HO_9.out).2.1); rintro e w' ⟨rfl, ⟨nd, rfl⟩⟩) | (go_at_call 24; (with_reducible refine (term_Valid.calls kj59 _ _ x9_46 6 t270 _ ?side1 ?side2 A74.out).mono ?_); (case side1 => repeat (first | exact (Kd.R_reads' HO_9.out).2.2 | (with_reducible refine Kd.C_alloc ?_ _) | (with_reducible refine Kd.C_drewN ?_ _) | (with_reducible refine Kd.C_drew ?_))); (case side2 => exact (Kd.R_reads' HO_9.out).2.1); rintro e w79 ⟨rfl, hb⟩; have n0_ := Aside0.mk (Kd.R_below (by (with_reducible repeat (first | apply Kd.R_alloc | apply Kd.R_drewN | apply Kd.R_drew)); exact HO_9.out) hb); have n1_ := Aside0.mk (below_step (by repeat (first | (with_reducible first | exact HB.out | apply below_alloc | apply pw_below_drewN | apply below_drew1) | exact HB.out)) hb); clear HO_9; clear HB; have HO_9 := n0_; have HB := n1_; clear n0_ n1_; (try clear hb); (try clear hb2); (try clear hk); (try clear hi)))
                                  go_ret
                                  exact ⟨by first | rfl | (simp [errW_none, errW_some] <;> rfl) | (simp [*, errW_none, errW_some] <;> rfl), by repeat (first | (with_reducible first | exact HB.out | apply below_alloc | apply pw_below_drewN | apply below_drew1) | exact HB.out)⟩
                                · rw [if_neg c73] at H
                                  have c73b0 : (t269 == (x9_46.length : Int)) = false := beq_eq_false_iff_ne.mpr c73
                                  have c73b1 : (t269 != (x9_46.length : Int)) = true := bne_iff_ne.mpr c73
                                  obtain rfl := Option.some.inj H
                                  go_wp2_with (first | ((with_reducible refine gate_callee (f := 11) rfl ?_); refine goesL_ (some 97) rfl rfl Try.func11 (by kernel_rfl) rfl #[] rfl (by (try simp only [List.map_toArray, List.map_cons, List.map_nil]); first | done | rfl | (simp only [List.length_drop, List.length_take]; rfl)) ?_; (with_reducible refine (selfstablaw05_awake.calls kj59  true _ A66.out).mono ?_); rintro e w80 ⟨rfl, hb⟩; refine ⟨_, rfl, ?_⟩; have n0_ := Aside0.mk (Kd.R_below (by (with_reducible repeat (first | apply Kd.R_alloc | apply Kd.R_drewN | apply Kd.R_drew)); exact HO_9.out) hb); have n1_ := Aside0.mk (below_step (by repeat (first | (with_reducible first | exact HB.out | apply below_alloc | apply pw_below_drewN | apply below_drew1) | exact HB.out)) hb); clear HO_9; clear HB; have HO_9 := n0_; have HB := n1_; clear n0_ n1_; (try clear hb); (try clear hb2); (try clear hk); (try clear hi); obtain ⟨Ao81, co81, eo81⟩ := Kd.R_slice HO_9.out; subst eo81) | (go_at_call 18; (with_reducible refine (term_Depth.calls kj59 _ _ x9_46 t267 _ ?side1 ?side2 A68.out).mono ?_); (case side1 => repeat (first | exact (Kd.R_reads' HO_9.out).2.2 | (with_reducible refine Kd.C_alloc ?_ _) | (with_reducible refine Kd.C_drewN ?_ _) | (with_reducible refine Kd.C_drew ?_))); (case side2 => exact (Kd.R_reads' HO_9.out).2.1); rintro e w82 ⟨rfl, hb⟩; have n0_ := Aside0.mk (Kd.R_below (by (with_reducible repeat (first | apply Kd.R_alloc | apply Kd.R_drewN | apply Kd.R_drew)); exact HO_9.out) hb); have n1_ := Aside0.mk (below_step (by repeat (first | (with_reducible first | exact HB.out | apply below_alloc | apply pw_below_drewN | apply below_drew1) | exact HB.out)) hb); clear HO_9; clear HB; have HO_9 := n0_; have HB := n1_; clear n0_ n1_; (try clear hb); (try clear hb2); (try clear hk); (try clear hi)) | (go_at_call 20; (with_reducible refine (term_Nest.calls kj59 _ _ x9_46 t268 _ ?side1 ?side2 A70.out).mono ?_); (case side1 => repeat (first | exact (Kd.R_reads' HO_9.out).2.2 | (with_reducible refine Kd.C_alloc ?_ _) | (with_reducible refine Kd.C_drewN ?_ _) | (with_reducible refine Kd.C_drew ?_))); (case side2 => exact (Kd.R_reads' HO_9.out).2.1); rintro e w83 ⟨rfl, hb⟩; have n0_ := Aside0.mk (Kd.R_below (by (with_reducible repeat (first | apply Kd.R_alloc | apply Kd.R_drewN | apply Kd.R_drew)); exact HO_9.out) hb); have n1_ := Aside0.mk (below_step (by repeat (first | (with_reducible first | exact HB.out | apply below_alloc | apply pw_below_drewN | apply below_drew1) | exact HB.out)) hb); clear HO_9; clear HB; have HO_9 := n0_; have HB := n1_; clear n0_ n1_; (try clear hb); (try clear hb2); (try clear hk); (try clear hi)) | (go_at_call 14; (with_reducible refine (term_End.calls kj59 _ _ x9_46 0 t269 _ ?side1 ?side2 A72.out).mono ?_); (case side1 => repeat (first | exact (Kd.R_reads' HO_9.out).2.2 | (with_reducible refine Kd.C_alloc ?_ _) | (with_reducible refine Kd.C_drewN ?_ _) | (with_reducible refine Kd.C_drew ?_))); (case side2 => exact (Kd.R_reads' HO_9.out).2.1); rintro e w' ⟨rfl, ⟨nd, rfl⟩⟩))
                                  go_ret
                                  exact ⟨by first | rfl | (simp [errW_none, errW_some] <;> rfl) | (simp [*, errW_none, errW_some] <;> rfl), by repeat (first | (with_reducible first | exact HB.out | apply below_alloc | apply pw_below_drewN | apply below_drew1) | exact HB.out)⟩
                              · rw [if_neg c71] at H
                                have c71b0 : (t268 == x11_57) = false := beq_eq_false_iff_ne.mpr c71
                                have c71b1 : (t268 != x11_57) = true := bne_iff_ne.mpr c71
                                obtain rfl := Option.some.inj H
                                go_wp2_with (first | ((with_reducible refine gate_callee (f := 11) rfl ?_); refine goesL_ (some 97) rfl rfl Try.func11 (by kernel_rfl) rfl #[] rfl (by (try simp only [List.map_toArray, List.map_cons, List.map_nil]); first | done | rfl | (simp only [List.length_drop, List.length_take]; rfl)) ?_; (with_reducible refine (selfstablaw05_awake.calls kj59  true _ A66.out).mono ?_); rintro e w84 ⟨rfl, hb⟩; refine ⟨_, rfl, ?_⟩; have n0_ := Aside0.mk (Kd.R_below (by (with_reducible repeat (first | apply Kd.R_alloc | apply Kd.R_drewN | apply Kd.R_drew)); exact HO_9.out) hb); have n1_ := Aside0.mk (below_step (by repeat (first | (with_reducible first | exact HB.out | apply below_alloc | apply pw_below_drewN | apply below_drew1) | exact HB.out)) hb); clear HO_9; clear HB; have HO_9 := n0_; have HB := n1_; clear n0_ n1_; (try clear hb); (try clear hb2); (try clear hk); (try clear hi); obtain ⟨Ao85, co85, eo85⟩ := Kd.R_slice HO_9.out; subst eo85) | (go_at_call 18; (with_reducible refine (term_Depth.calls kj59 _ _ x9_46 t267 _ ?side1 ?side2 A68.out).mono ?_); (case side1 => repeat (first | exact (Kd.R_reads' HO_9.out).2.2 | (with_reducible refine Kd.C_alloc ?_ _) | (with_reducible refine Kd.C_drewN ?_ _) | (with_reducible refine Kd.C_drew ?_))); (case side2 => exact (Kd.R_reads' HO_9.out).2.1); rintro e w86 ⟨rfl, hb⟩; have n0_ := Aside0.mk (Kd.R_below (by (with_reducible repeat (first | apply Kd.R_alloc | apply Kd.R_drewN | apply Kd.R_drew)); exact HO_9.out) hb); have n1_ := Aside0.mk (below_step (by repeat (first | (with_reducible first | exact HB.out | apply below_alloc | apply pw_below_drewN | apply below_drew1) | exact HB.out)) hb); clear HO_9; clear HB; have HO_9 := n0_; have HB := n1_; clear n0_ n1_; (try clear hb); (try clear hb2); (try clear hk); (try clear hi)) | (go_at_call 20; (with_reducible refine (term_Nest.calls kj59 _ _ x9_46 t268 _ ?side1 ?side2 A70.out).mono ?_); (case side1 => repeat (first | exact (Kd.R_reads' HO_9.out).2.2 | (with_reducible refine Kd.C_alloc ?_ _) | (with_reducible refine Kd.C_drewN ?_ _) | (with_reducible refine Kd.C_drew ?_))); (case side2 => exact (Kd.R_reads' HO_9.out).2.1); rintro e w87 ⟨rfl, hb⟩; have n0_ := Aside0.mk (Kd.R_below (by (with_reducible repeat (first | apply Kd.R_alloc | apply Kd.R_drewN | apply Kd.R_drew)); exact HO_9.out) hb); have n1_ := Aside0.mk (below_step (by repeat (first | (with_reducible first | exact HB.out | apply below_alloc | apply pw_below_drewN | apply below_drew1) | exact HB.out)) hb); clear HO_9; clear HB; have HO_9 := n0_; have HB := n1_; clear n0_ n1_; (try clear hb); (try clear hb2); (try clear hk); (try clear hi)))
                                go_ret
                                exact ⟨by first | rfl | (simp [errW_none, errW_some] <;> rfl) | (simp [*, errW_none, errW_some] <;> rfl), by repeat (first | (with_reducible first | exact HB.out | apply below_alloc | apply pw_below_drewN | apply below_drew1) | exact HB.out)⟩
                            · rw [if_neg c69] at H
                              have c69b0 : (t267 == (wrap64 (x10_46 + 1))) = false := beq_eq_false_iff_ne.mpr c69
                              have c69b1 : (t267 != (wrap64 (x10_46 + 1))) = true := bne_iff_ne.mpr c69
                              obtain rfl := Option.some.inj H
                              go_wp2_with (first | ((with_reducible refine gate_callee (f := 11) rfl ?_); refine goesL_ (some 97) rfl rfl Try.func11 (by kernel_rfl) rfl #[] rfl (by (try simp only [List.map_toArray, List.map_cons, List.map_nil]); first | done | rfl | (simp only [List.length_drop, List.length_take]; rfl)) ?_; (with_reducible refine (selfstablaw05_awake.calls kj59  true _ A66.out).mono ?_); rintro e w88 ⟨rfl, hb⟩; refine ⟨_, rfl, ?_⟩; have n0_ := Aside0.mk (Kd.R_below (by (with_reducible repeat (first | apply Kd.R_alloc | apply Kd.R_drewN | apply Kd.R_drew)); exact HO_9.out) hb); have n1_ := Aside0.mk (below_step (by repeat (first | (with_reducible first | exact HB.out | apply below_alloc | apply pw_below_drewN | apply below_drew1) | exact HB.out)) hb); clear HO_9; clear HB; have HO_9 := n0_; have HB := n1_; clear n0_ n1_; (try clear hb); (try clear hb2); (try clear hk); (try clear hi); obtain ⟨Ao89, co89, eo89⟩ := Kd.R_slice HO_9.out; subst eo89) | (go_at_call 18; (with_reducible refine (term_Depth.calls kj59 _ _ x9_46 t267 _ ?side1 ?side2 A68.out).mono ?_); (case side1 => repeat (first | exact (Kd.R_reads' HO_9.out).2.2 | (with_reducible refine Kd.C_alloc ?_ _) | (with_reducible refine Kd.C_drewN ?_ _) | (with_reducible refine Kd.C_drew ?_))); (case side2 => exact (Kd.R_reads' HO_9.out).2.1); rintro e w90 ⟨rfl, hb⟩; have n0_ := Aside0.mk (Kd.R_below (by (with_reducible repeat (first | apply Kd.R_alloc | apply Kd.R_drewN | apply Kd.R_drew)); exact HO_9.out) hb); have n1_ := Aside0.mk (below_step (by repeat (first | (with_reducible first | exact HB.out | apply below_alloc | apply pw_below_drewN | apply below_drew1) | exact HB.out)) hb); clear HO_9; clear HB; have HO_9 := n0_; have HB := n1_; clear n0_ n1_; (try clear hb); (try clear hb2); (try clear hk); (try clear hi)))
                              go_ret
                              exact ⟨by first | rfl | (simp [errW_none, errW_some] <;> rfl) | (simp [*, errW_none, errW_some] <;> rfl), by repeat (first | (with_reducible first | exact HB.out | apply below_alloc | apply pw_below_drewN | apply below_drew1) | exact HB.out)⟩
                          · replace c67 := Bool.eq_false_iff.mpr c67
                            subst c67
                            have H1 : (some false) = some r := by rw [if_neg (show ¬ (false = true) by decide)] at H; exact H
                            clear H
                            have H := H1
                            clear H1
                            obtain rfl := Option.some.inj H
                            go_wp2_with (first | ((with_reducible refine gate_callee (f := 11) rfl ?_); refine goesL_ (some 97) rfl rfl Try.func11 (by kernel_rfl) rfl #[] rfl (by (try simp only [List.map_toArray, List.map_cons, List.map_nil]); first | done | rfl | (simp only [List.length_drop, List.length_take]; rfl)) ?_; (with_reducible refine (selfstablaw05_awake.calls kj59  false _ A66.out).mono ?_); rintro e w91 ⟨rfl, hb⟩; refine ⟨_, rfl, ?_⟩; have n0_ := Aside0.mk (Kd.R_below (by (with_reducible repeat (first | apply Kd.R_alloc | apply Kd.R_drewN | apply Kd.R_drew)); exact HO_9.out) hb); have n1_ := Aside0.mk (below_step (by repeat (first | (with_reducible first | exact HB.out | apply below_alloc | apply pw_below_drewN | apply below_drew1) | exact HB.out)) hb); clear HO_9; clear HB; have HO_9 := n0_; have HB := n1_; clear n0_ n1_; (try clear hb); (try clear hb2); (try clear hk); (try clear hi)))
                            go_ret
                            exact ⟨by first | rfl | (simp [errW_none, errW_some] <;> rfl) | (simp [*, errW_none, errW_some] <;> rfl), by repeat (first | (with_reducible first | exact HB.out | apply below_alloc | apply pw_below_drewN | apply below_drew1) | exact HB.out)⟩
        · rw [if_neg c27] at H
          exact absurd H (by simp)

end Go.Proofs.Ytbjigmgiecgolaa.P
