-- made by a program of mine (wip/tools/pp.py over the kit's print)
import Derived.Test.YtbjigmgiecgolaaP0
import Derived.Test.YtbjigmgiecgolaaP2
import Derived.Test.YtbjigmgiecgolaaP3
import Derived.Test.YtbjigmgiecgolaaP4
import Derived.Test.YtbjigmgiecgolaaP5
import Derived.Test.YtbjigmgiecgolaaP7
namespace Go.Proofs.Ytbjigmgiecgolaa.P
open Go.RowKit Go.Proofs.YtbjigmgiecgolaaW.PrintWords Go.Proofs.YtbjigmgiecgolaaW.PrintLast Go.Proofs.YtbjigmgiecgolaaW.PrintMore
attribute [local go_sem] max2_int min2_int max_two min_two max_three min_three max_four min_four   -- for this text's walks alone
set_option linter.unusedVariables false
set_option linter.unusedSimpArgs false

/-! ### selfstabref05_Valid: function 22 -/
mutual
def selfstabref05_Valid.j0 : Nat → List (S31) → Int → Bool → Option (Bool)
  | 0, _, _, _ => none
  | k + 1, x0, x1, x23 => if x23 = true then (some false) else (selfstabref05_Valid.l0 k x0 x1 0)
def selfstabref05_Valid.l0 : Nat → List (S31) → Int → Int → Option (Bool)
  | 0, _, _, _ => none
  | k + 1, x0, x1, x5 => if x5 < (x0.length : Int) then (if 0 ≤ x5 then ((selfstabref05_argument.f ((rd_T31 x0 x5).f0) ((rd_T31 x0 x5).f1) x1).bind fun t218 => (if t218 = true then (selfstabref05_Valid.l0 k x0 x1 (wrap64 (x5 + 1))) else (some false))) else (none)) else (some true)
end
def selfstabref05_Valid.f (k : Nat) (l0 : List (S31)) (a1 : Int) : Option (Bool) := if (l0.length : Int) > 200 then (selfstabref05_Valid.j0 k l0 a1 true) else ((selfstabref05_one.f k l0).bind fun t214 => (if t214 = true then ((selfstabref05_Depth.f k l0).bind fun t215 => (if t215 > 24 then (selfstabref05_Valid.j0 k l0 a1 true) else ((selfstabref05_Nest.f k l0).bind fun t216 => (selfstabref05_Valid.j0 k l0 a1 (decide (t216 > 2)))))) else (selfstabref05_Valid.j0 k l0 a1 true)))
theorem selfstabref05_Valid.mono_l : ∀ k, (∀ y0 y1 y2, LeO (selfstabref05_Valid.j0 k y0 y1 y2) (selfstabref05_Valid.j0 (k + 1) y0 y1 y2)) ∧ (∀ y0 y1 y2, LeO (selfstabref05_Valid.l0 k y0 y1 y2) (selfstabref05_Valid.l0 (k + 1) y0 y1 y2))
  | 0 => ⟨fun _ _ _ r h => by simp [selfstabref05_Valid.j0] at h, fun _ _ _ r h => by simp [selfstabref05_Valid.l0] at h⟩
  | k + 1 => by
    obtain ⟨ih0, ih1⟩ := selfstabref05_Valid.mono_l k
    refine ⟨?_, ?_⟩
    · intro y0 y1 y2
      unfold selfstabref05_Valid.j0
      repeat' first
      | (with_reducible exact ih0 _ _ _)
      | (with_reducible exact ih1 _ _ _)
      | (with_reducible exact selfstabref05_Depth.mono _ _)
      | (with_reducible exact selfstabref05_Nest.mono _ _)
      | (with_reducible exact selfstabref05_one.mono _ _)
      | (with_reducible exact LeO.refl _)
      | (with_reducible exact LeO.none _)
      | (with_reducible refine LeO.ite ?_ ?_)
      | (with_reducible refine LeO.bind ?_ (fun _ => ?_))
      | exact ih0 _ _ _
      | exact ih1 _ _ _
      | exact selfstabref05_Depth.mono _ _
      | exact selfstabref05_Nest.mono _ _
      | exact selfstabref05_one.mono _ _
      | exact LeO.none _
      | refine LeO.ite ?_ ?_
      | refine LeO.bind ?_ (fun _ => ?_)
    · intro y0 y1 y2
      unfold selfstabref05_Valid.l0
      repeat' first
      | (with_reducible exact ih0 _ _ _)
      | (with_reducible exact ih1 _ _ _)
      | (with_reducible exact selfstabref05_Depth.mono _ _)
      | (with_reducible exact selfstabref05_Nest.mono _ _)
      | (with_reducible exact selfstabref05_one.mono _ _)
      | (with_reducible exact LeO.refl _)
      | (with_reducible exact LeO.none _)
      | (with_reducible refine LeO.ite ?_ ?_)
      | (with_reducible refine LeO.bind ?_ (fun _ => ?_))
      | exact ih0 _ _ _
      | exact ih1 _ _ _
      | exact selfstabref05_Depth.mono _ _
      | exact selfstabref05_Nest.mono _ _
      | exact selfstabref05_one.mono _ _
      | exact LeO.none _
      | refine LeO.ite ?_ ?_
      | refine LeO.bind ?_ (fun _ => ?_)
theorem selfstabref05_Valid.mono : ∀ a0 a1 k, LeO (selfstabref05_Valid.f k a0 a1) (selfstabref05_Valid.f (k + 1) a0 a1) := by
  intro a0 a1 k
  obtain ⟨ih0, ih1⟩ := selfstabref05_Valid.mono_l k
  unfold selfstabref05_Valid.f
  repeat' first
      | (with_reducible exact ih0 _ _ _)
      | (with_reducible exact ih1 _ _ _)
      | (with_reducible exact selfstabref05_Depth.mono _ _)
      | (with_reducible exact selfstabref05_Nest.mono _ _)
      | (with_reducible exact selfstabref05_one.mono _ _)
      | (with_reducible exact LeO.refl _)
      | (with_reducible exact LeO.none _)
      | (with_reducible refine LeO.ite ?_ ?_)
      | (with_reducible refine LeO.bind ?_ (fun _ => ?_))
      | exact ih0 _ _ _
      | exact ih1 _ _ _
      | exact selfstabref05_Depth.mono _ _
      | exact selfstabref05_Nest.mono _ _
      | exact selfstabref05_one.mono _ _
      | exact LeO.none _
      | refine LeO.ite ?_ ?_
      | refine LeO.bind ?_ (fun _ => ?_)
set_option maxHeartbeats 6000000 in
set_option maxRecDepth 100000 in
theorem selfstabref05_Valid.calls (k : Nat) (A0 : Option Addr) (c0 : Nat) (l0 : List (S31)) (a1 : Int) (r : Bool) (w : World) (hr0 : Kd.C k31 w A0 l0.length l0) (hc0 : l0.length ≤ c0) (h : selfstabref05_Valid.f k l0 a1 = some r) :
    Calls Try.prog 22 #[.slice A0 l0.length c0, .int .i64 a1] w fun e w' => e = .returned (.bool r) ∧ Below w.heap.size w w' := by
  have hu31 := Try.underlying31
  have HR0 := Aside0.mk hr0
  have HC0 := Aside0.mk hc0
  clear hr0 hc0
  have HB := Aside0.mk (Below.refl w.heap.size w)
  have H : (if (l0.length : Int) > 200 then (selfstabref05_Valid.j0 k l0 a1 true) else ((selfstabref05_one.f k l0).bind fun t214 => (if t214 = true then ((selfstabref05_Depth.f k l0).bind fun t215 => (if t215 > 24 then (selfstabref05_Valid.j0 k l0 a1 true) else ((selfstabref05_Nest.f k l0).bind fun t216 => (selfstabref05_Valid.j0 k l0 a1 (decide (t216 > 2)))))) else (selfstabref05_Valid.j0 k l0 a1 true)))) = some r := h
  clear h
  have HC3 := Aside0.mk H
  clear H
  go_enter Try.func22, Try.ntmps22
  go_upto_region 1 with (fail)
  go_cut [23] (fun v23 wc => ∃ (kq : Nat) (x23_2 : Bool), v23 = .bool x23_2 ∧ Aside0 (selfstabref05_Valid.j0 kq l0 a1 x23_2 = some r) ∧ Aside0 (kq ≤ k) ∧ Aside0 (Below w.heap.size w wc))
  case first =>
    have H := HC3.out
    clear HC3
    by_cases c4 : (l0.length : Int) > 200
    · rw [if_pos c4] at H
      have c4b0 : decide (200 < (l0.length : Int)) = true := decide_eq_true c4
      have c4b1 : decide (200 < l0.length) = true := decide_eq_true (by omega)
      clear c4
      (first | rw [c4b0] | (simp only [i64_w, i32_w]; rw [c4b0]) | skip)
      have H' := Aside0.mk H
      clear H
      go_wp2
      go_meet
      case rel => exact ⟨_, (true), (by first | rfl | (simp; done) | (simp [*]; done)), H', ⟨by first | omega | exact Nat.le_refl _⟩, ⟨by repeat (first | (with_reducible first | exact HB.out | apply below_alloc | apply pw_below_drewN | apply below_drew1) | exact HB.out)⟩⟩
    · rw [if_neg c4] at H
      have c4b0 : decide (200 < (l0.length : Int)) = false := decide_eq_false c4
      have c4b1 : decide (200 < l0.length) = false := decide_eq_false (by omega)
      clear c4
      (first | rw [c4b0] | (simp only [i64_w, i32_w]; rw [c4b0]) | skip)
      replace H := Option.bind_eq_some_iff.mp H
      obtain ⟨t214, A50, H⟩ := H
      replace H : (if t214 = true then ((selfstabref05_Depth.f k l0).bind fun t215 => (if t215 > 24 then (selfstabref05_Valid.j0 k l0 a1 true) else ((selfstabref05_Nest.f k l0).bind fun t216 => (selfstabref05_Valid.j0 k l0 a1 (decide (t216 > 2)))))) else (selfstabref05_Valid.j0 k l0 a1 true)) = some r := H
      have A5 := Aside0.mk A50
      clear A50
      by_cases c6 : t214 = true
      · subst c6
        have H1 : ((selfstabref05_Depth.f k l0).bind fun t215 => (if t215 > 24 then (selfstabref05_Valid.j0 k l0 a1 true) else ((selfstabref05_Nest.f k l0).bind fun t216 => (selfstabref05_Valid.j0 k l0 a1 (decide (t216 > 2)))))) = some r := by rw [if_pos rfl] at H; exact H
        clear H
        have H := H1
        clear H1
        replace H := Option.bind_eq_some_iff.mp H
        obtain ⟨t215, A70, H⟩ := H
        replace H : (if t215 > 24 then (selfstabref05_Valid.j0 k l0 a1 true) else ((selfstabref05_Nest.f k l0).bind fun t216 => (selfstabref05_Valid.j0 k l0 a1 (decide (t216 > 2))))) = some r := H
        have A7 := Aside0.mk A70
        clear A70
        by_cases c8 : t215 > 24
        · rw [if_pos c8] at H
          have c8b0 : decide (24 < t215) = true := decide_eq_true c8
          clear c8
          have H' := Aside0.mk H
          clear H
          go_wp2_with (first | (go_at_call 35; (with_reducible refine (selfstabref05_one.calls k _ _ l0 true _ ?side1 ?side2 A5.out).mono ?_); (case side1 => repeat (first | exact (Kd.C_below HR0.out HB.out) | (with_reducible refine Kd.C_alloc ?_ _) | (with_reducible refine Kd.C_drewN ?_ _) | (with_reducible refine Kd.C_drew ?_))); (case side2 => exact HC0.out); rintro e w' ⟨rfl, ⟨nd, rfl⟩⟩) | (go_at_call 19; (with_reducible refine (selfstabref05_Depth.calls k _ _ l0 t215 _ ?side1 ?side2 A7.out).mono ?_); (case side1 => repeat (first | exact (Kd.C_below HR0.out (by repeat (first | (with_reducible first | exact HB.out | apply below_alloc | apply pw_below_drewN | apply below_drew1) | exact HB.out))) | (with_reducible refine Kd.C_alloc ?_ _) | (with_reducible refine Kd.C_drewN ?_ _) | (with_reducible refine Kd.C_drew ?_))); (case side2 => exact HC0.out); rintro e w9 ⟨rfl, hb⟩; have n0_ := Aside0.mk (below_step (by repeat (first | (with_reducible first | exact HB.out | apply below_alloc | apply pw_below_drewN | apply below_drew1) | exact HB.out)) hb); clear HB; have HB := n0_; clear n0_; (try clear hb); (try clear hb2); (try clear hk); (try clear hi)))
          go_meet
          case rel => exact ⟨_, (true), (by first | rfl | (simp; done) | (simp [*]; done)), H', ⟨by first | omega | exact Nat.le_refl _⟩, ⟨by repeat (first | (with_reducible first | exact HB.out | apply below_alloc | apply pw_below_drewN | apply below_drew1) | exact HB.out)⟩⟩
        · rw [if_neg c8] at H
          have c8b0 : decide (24 < t215) = false := decide_eq_false c8
          clear c8
          replace H := Option.bind_eq_some_iff.mp H
          obtain ⟨t216, A100, H⟩ := H
          replace H : (selfstabref05_Valid.j0 k l0 a1 (decide (t216 > 2))) = some r := H
          have A10 := Aside0.mk A100
          clear A100
          have H' := Aside0.mk H
          clear H
          go_wp2_with (first | (go_at_call 35; (with_reducible refine (selfstabref05_one.calls k _ _ l0 true _ ?side1 ?side2 A5.out).mono ?_); (case side1 => repeat (first | exact (Kd.C_below HR0.out HB.out) | (with_reducible refine Kd.C_alloc ?_ _) | (with_reducible refine Kd.C_drewN ?_ _) | (with_reducible refine Kd.C_drew ?_))); (case side2 => exact HC0.out); rintro e w' ⟨rfl, ⟨nd, rfl⟩⟩) | (go_at_call 19; (with_reducible refine (selfstabref05_Depth.calls k _ _ l0 t215 _ ?side1 ?side2 A7.out).mono ?_); (case side1 => repeat (first | exact (Kd.C_below HR0.out (by repeat (first | (with_reducible first | exact HB.out | apply below_alloc | apply pw_below_drewN | apply below_drew1) | exact HB.out))) | (with_reducible refine Kd.C_alloc ?_ _) | (with_reducible refine Kd.C_drewN ?_ _) | (with_reducible refine Kd.C_drew ?_))); (case side2 => exact HC0.out); rintro e w11 ⟨rfl, hb⟩; have n0_ := Aside0.mk (below_step (by repeat (first | (with_reducible first | exact HB.out | apply below_alloc | apply pw_below_drewN | apply below_drew1) | exact HB.out)) hb); clear HB; have HB := n0_; clear n0_; (try clear hb); (try clear hb2); (try clear hk); (try clear hi)) | (go_at_call 21; (with_reducible refine (selfstabref05_Nest.calls k _ _ l0 t216 _ ?side1 ?side2 A10.out).mono ?_); (case side1 => repeat (first | exact (Kd.C_below HR0.out HB.out) | (with_reducible refine Kd.C_alloc ?_ _) | (with_reducible refine Kd.C_drewN ?_ _) | (with_reducible refine Kd.C_drew ?_))); (case side2 => exact HC0.out); rintro e w12 ⟨rfl, hb⟩; have n0_ := Aside0.mk (below_step (by repeat (first | (with_reducible first | exact HB.out | apply below_alloc | apply pw_below_drewN | apply below_drew1) | exact HB.out)) hb); clear HB; have HB := n0_; clear n0_; (try clear hb); (try clear hb2); (try clear hk); (try clear hi)))
          go_meet
          case rel => exact ⟨_, (decide (t216 > 2)), (by first | rfl | (simp; done) | (simp [*]; done)), H', ⟨by first | omega | exact Nat.le_refl _⟩, ⟨by repeat (first | (with_reducible first | exact HB.out | apply below_alloc | apply pw_below_drewN | apply below_drew1) | exact HB.out)⟩⟩
      · replace c6 := Bool.eq_false_iff.mpr c6
        subst c6
        have H1 : (selfstabref05_Valid.j0 k l0 a1 true) = some r := by rw [if_neg (show ¬ (false = true) by decide)] at H; exact H
        clear H
        have H := H1
        clear H1
        have H' := Aside0.mk H
        clear H
        go_wp2_with (first | (go_at_call 35; (with_reducible refine (selfstabref05_one.calls k _ _ l0 false _ ?side1 ?side2 A5.out).mono ?_); (case side1 => repeat (first | exact (Kd.C_below HR0.out HB.out) | (with_reducible refine Kd.C_alloc ?_ _) | (with_reducible refine Kd.C_drewN ?_ _) | (with_reducible refine Kd.C_drew ?_))); (case side2 => exact HC0.out); rintro e w' ⟨rfl, ⟨nd, rfl⟩⟩))
        go_meet
        case rel => exact ⟨_, (true), (by first | rfl | (simp; done) | (simp [*]; done)), H', ⟨by first | omega | exact Nat.le_refl _⟩, ⟨by repeat (first | (with_reducible first | exact HB.out | apply below_alloc | apply pw_below_drewN | apply below_drew1) | exact HB.out)⟩⟩
  case rest =>
    clear HC3
    try clear c2
    try clear p2
    try clear c4
    try clear c4b0
    try clear c4b1
    try clear c6
    try clear c8
    try clear c8b0
    obtain ⟨kq, x23_2, rfl, HA, HJ2, HB⟩ := hcut
    cases kq with
    | zero => exact absurd HA.out (by simp [selfstabref05_Valid.j0])
    | succ kj2 =>
      have H := HA.out
      clear HA
      simp only [selfstabref05_Valid.j0] at H
      by_cases c13 : x23_2 = true
      · subst c13
        have H1 : (some false) = some r := by rw [if_pos rfl] at H; exact H
        clear H
        have H := H1
        clear H1
        obtain rfl := Option.some.inj H
        go_wp2
        go_ret
        exact ⟨by first | rfl | (simp [errW_none, errW_some] <;> rfl) | (simp [*, errW_none, errW_some] <;> rfl), by repeat (first | (with_reducible first | exact HB.out | apply below_alloc | apply pw_below_drewN | apply below_drew1) | exact HB.out)⟩
      · replace c13 := Bool.eq_false_iff.mpr c13
        subst c13
        have H1 : (selfstabref05_Valid.l0 kj2 l0 a1 0) = some r := by rw [if_neg (show ¬ (false = true) by decide)] at H; exact H
        clear H
        have H := H1
        clear H1
        have H' := Aside0.mk H
        clear H
        go_wp2
        go_loopg [5] kj2 (fun kq v5 w' => ∃ (x5_2 : Int), v5 = .int .i64 x5_2 ∧ Aside0 (selfstabref05_Valid.l0 kq l0 a1 x5_2 = some r) ∧ Aside0 (kq ≤ kj2) ∧ Aside0 (Below w.heap.size w w'))
        case atStart => exact ⟨(0), (by first | rfl | (simp; done) | (simp [*]; done)), H', ⟨Nat.le_refl _⟩, ⟨by repeat (first | (with_reducible first | exact HB.out | apply below_alloc | apply pw_below_drewN | apply below_drew1) | exact HB.out)⟩⟩
        case round =>
          clear H'
          try clear c1
          try clear c2
          try clear p2
          try clear c4
          try clear c4b0
          try clear c4b1
          try clear c6
          try clear c8
          try clear c8b0
          try clear c13
          try clear p2
          obtain ⟨x5_2, rfl, HA, HK2, HB⟩ := hrel
          cases gk with
          | zero => exact absurd HA.out (by simp [selfstabref05_Valid.l0])
          | succ k2 =>
            have H := HA.out
            clear HA
            simp only [selfstabref05_Valid.l0] at H
            by_cases c14 : x5_2 < (l0.length : Int)
            · rw [if_pos c14] at H
              have c14b0 : decide (x5_2 < (l0.length : Int)) = true := decide_eq_true c14
              clear c14
              by_cases c15 : 0 ≤ x5_2
              · rw [if_pos c15] at H
                have c15b0 : decide (0 ≤ x5_2) = true := decide_eq_true c15
                clear c15
                replace H := Option.bind_eq_some_iff.mp H
                obtain ⟨t218, A160, H⟩ := H
                replace H : (if t218 = true then (selfstabref05_Valid.l0 k2 l0 a1 (wrap64 (x5_2 + 1))) else (some false)) = some r := H
                have A16 := Aside0.mk A160
                clear A160
                by_cases c17 : t218 = true
                · subst c17
                  have H1 : (selfstabref05_Valid.l0 k2 l0 a1 (wrap64 (x5_2 + 1))) = some r := by rw [if_pos rfl] at H; exact H
                  clear H
                  have H := H1
                  clear H1
                  have H' := Aside0.mk H
                  clear H
                  have p217 : 0 ≤ (x5_2 : Int) := of_decide_eq_true (by first | (with_reducible assumption) | assumption)
                  have q217 : x5_2 < (l0.length : Int) := of_decide_eq_true (by first | (with_reducible assumption) | assumption)
                  obtain ⟨ad217, e217, hx217_0, hx217_1⟩ := at_T31 HR0.out x5_2 p217 q217
                  cases e217
                  replace hx217_0 := (HB.out.cell (World.block_lt_of_cell? w _ hx217_0)).trans hx217_0
                  replace hx217_1 := (HB.out.cell (World.block_lt_of_cell? w _ hx217_1)).trans hx217_1
                  replace p217 := eq_true p217
                  replace q217 := eq_true q217
                  go_wp2_with (first | ((with_reducible refine gate_callee (f := 39) rfl ?_); refine goesL_ (some 35) rfl rfl Try.func39 (by kernel_rfl) rfl #[.agg #[.int .i64 ((rd_T31 l0 x5_2).f0), .int .i64 ((rd_T31 l0 x5_2).f1)], .int .i64 a1] rfl (by (try simp only [List.map_toArray, List.map_cons, List.map_nil]); first | done | rfl | (simp only [List.length_drop, List.length_take]; rfl)) ?_; (with_reducible refine (selfstabref05_argument.calls ((rd_T31 l0 x5_2).f0) ((rd_T31 l0 x5_2).f1) a1 true _ A16.out).mono ?_); rintro e w18 ⟨rfl, hb⟩; refine ⟨_, rfl, ?_⟩; have n0_ := Aside0.mk (below_step (by repeat (first | (with_reducible first | exact HB.out | apply below_alloc | apply pw_below_drewN | apply below_drew1) | exact HB.out)) hb); clear HB; have HB := n0_; clear n0_; (try clear hb); (try clear hb2); (try clear hk); (try clear hi)))
                  go_roundg k2
                  case measure => have := HJ2.out; have := HK2.out; omega
                  case rel => exact ⟨(wrap64 (x5_2 + 1)), (by first | rfl | (simp; done) | (simp [*]; done)), H', ⟨by have := HJ2.out; have := HK2.out; omega⟩, ⟨by repeat (first | (with_reducible first | exact HB.out | apply below_alloc | apply pw_below_drewN | apply below_drew1) | exact HB.out)⟩⟩
                · replace c17 := Bool.eq_false_iff.mpr c17
                  subst c17
                  have H1 : (some false) = some r := by rw [if_neg (show ¬ (false = true) by decide)] at H; exact H
                  clear H
                  have H := H1
                  clear H1
                  obtain rfl := Option.some.inj H
                  have p217 : 0 ≤ (x5_2 : Int) := of_decide_eq_true (by first | (with_reducible assumption) | assumption)
                  have q217 : x5_2 < (l0.length : Int) := of_decide_eq_true (by first | (with_reducible assumption) | assumption)
                  obtain ⟨ad217, e217, hx217_0, hx217_1⟩ := at_T31 HR0.out x5_2 p217 q217
                  cases e217
                  replace hx217_0 := (HB.out.cell (World.block_lt_of_cell? w _ hx217_0)).trans hx217_0
                  replace hx217_1 := (HB.out.cell (World.block_lt_of_cell? w _ hx217_1)).trans hx217_1
                  replace p217 := eq_true p217
                  replace q217 := eq_true q217
                  go_wp2_with (first | ((with_reducible refine gate_callee (f := 39) rfl ?_); refine goesL_ (some 35) rfl rfl Try.func39 (by kernel_rfl) rfl #[.agg #[.int .i64 ((rd_T31 l0 x5_2).f0), .int .i64 ((rd_T31 l0 x5_2).f1)], .int .i64 a1] rfl (by (try simp only [List.map_toArray, List.map_cons, List.map_nil]); first | done | rfl | (simp only [List.length_drop, List.length_take]; rfl)) ?_; (with_reducible refine (selfstabref05_argument.calls ((rd_T31 l0 x5_2).f0) ((rd_T31 l0 x5_2).f1) a1 false _ A16.out).mono ?_); rintro e w19 ⟨rfl, hb⟩; refine ⟨_, rfl, ?_⟩; have n0_ := Aside0.mk (below_step (by repeat (first | (with_reducible first | exact HB.out | apply below_alloc | apply pw_below_drewN | apply below_drew1) | exact HB.out)) hb); clear HB; have HB := n0_; clear n0_; (try clear hb); (try clear hb2); (try clear hk); (try clear hi)))
                  go_ret
                  exact ⟨by first | rfl | (simp [errW_none, errW_some] <;> rfl) | (simp [*, errW_none, errW_some] <;> rfl), by repeat (first | (with_reducible first | exact HB.out | apply below_alloc | apply pw_below_drewN | apply below_drew1) | exact HB.out)⟩
              · rw [if_neg c15] at H
                exact absurd H (by simp)
            · rw [if_neg c14] at H
              have c14b0 : decide (x5_2 < (l0.length : Int)) = false := decide_eq_false c14
              clear c14
              obtain rfl := Option.some.inj H
              go_wp2
              go_ret
              exact ⟨by first | rfl | (simp [errW_none, errW_some] <;> rfl) | (simp [*, errW_none, errW_some] <;> rfl), by repeat (first | (with_reducible first | exact HB.out | apply below_alloc | apply pw_below_drewN | apply below_drew1) | exact HB.out)⟩

/-! ### selfstabmade_Mod: function 23 -/
def selfstabmade_Mod.f (a0 : Int) (a1 : Int) : Option (Int) := if a1 = 0 then (none) else (if (Int.tmod a0 a1) < 0 then (some (wrap64 ((Int.tmod a0 a1) + a1))) else (some (Int.tmod a0 a1)))
set_option maxHeartbeats 6000000 in
set_option maxRecDepth 100000 in
theorem selfstabmade_Mod.calls (a0 : Int) (a1 : Int) (r : Int) (w : World) (h : selfstabmade_Mod.f a0 a1 = some r) :
    Calls Try.prog 23 #[.int .i64 a0, .int .i64 a1] w fun e w' => e = .returned (.int .i64 r) ∧ Drawn0 w w' := by
  have H : (if a1 = 0 then (none) else (if (Int.tmod a0 a1) < 0 then (some (wrap64 ((Int.tmod a0 a1) + a1))) else (some (Int.tmod a0 a1)))) = some r := h
  clear h
  by_cases c3 : a1 = 0
  · rw [if_pos c3] at H
    exact absurd H (by simp)
  · rw [if_neg c3] at H
    have c3b0 : (a1 == 0) = false := beq_eq_false_iff_ne.mpr c3
    have c3b1 : (a1 != 0) = true := bne_iff_ne.mpr c3
    by_cases c4 : (Int.tmod a0 a1) < 0
    · rw [if_pos c4] at H
      have c4b0 : decide ((Int.tmod a0 a1) < 0) = true := decide_eq_true c4
      clear c4
      obtain rfl := Option.some.inj H
      go_enter Try.func23, Try.ntmps23
      go_wp2
      go_ret
      exact ⟨by first | rfl | (simp; done) | (simp [*]; done), by repeat (first | exact Drawn0.refl _ | apply Drawn0.step)⟩
    · rw [if_neg c4] at H
      have c4b0 : decide ((Int.tmod a0 a1) < 0) = false := decide_eq_false c4
      clear c4
      obtain rfl := Option.some.inj H
      go_enter Try.func23, Try.ntmps23
      go_wp2
      go_ret
      exact ⟨by first | rfl | (simp; done) | (simp [*]; done), by repeat (first | exact Drawn0.refl _ | apply Drawn0.step)⟩

/-! ### selfstablaw05_TermPartsAreValid: function 5 -/
mutual
def selfstablaw05_TermPartsAreValid.j0 : Nat → List (S31) → Int → Bool → Option (Bool)
  | 0, _, _, _ => none
  | k + 1, x0, x1, x14 => if x14 = true then ((selfstablaw05_awake.f k).bind fun t221 => (some t221)) else ((selfstabmade_Mod.f x1 (x0.length : Int)).bind fun t222 => ((term_End.f k x0 t222).bind fun t223 => (if t223 ≤ t222 then (selfstablaw05_TermPartsAreValid.j1 k x0 t222 t223 true) else (selfstablaw05_TermPartsAreValid.j1 k x0 t222 t223 (decide (t223 > (x0.length : Int)))))))
def selfstablaw05_TermPartsAreValid.j1 : Nat → List (S31) → Int → Int → Bool → Option (Bool)
  | 0, _, _, _, _ => none
  | k + 1, x0, x1, x5, x31 => if x31 = true then (some false) else (if 0 ≤ x1 then (if x1 ≤ x5 then (if x5 ≤ (x0.length : Int) then ((some ((x0.take (x5 : Int).toNat).drop (x1 : Int).toNat : List (S31))).bind fun y224 => (if ([] : List (S31)).length + y224.length < 8796093022208 then ((some (([] : List (S31)) ++ y224 : List (S31))).bind fun y228 => ((selfstablaw05_awake.f k).bind fun t231 => (if t231 = true then ((term_Valid.f k y228 6).bind fun t232 => (if t232 = true then ((term_Depth.f k y228).bind fun t233 => ((term_Depth.f k x0).bind fun t234 => (if t233 ≤ t234 then ((term_Nest.f k y228).bind fun t235 => ((term_Nest.f k x0).bind fun t236 => (if t235 ≤ t236 then (if x1 = 0 then (some true) else ((term_Depth.f k y228).bind fun t233 => ((term_Depth.f k x0).bind fun t234 => (some (decide (t233 < t234)))))) else (some false)))) else (some false)))) else (some false))) else (some false)))) else (none))) else (none)) else (none)) else (none))
end
def selfstablaw05_TermPartsAreValid.f (k : Nat) (l0 : List (S31)) (a1 : Int) : Option (Bool) := (selfstabmade_LightExpr.f l0).bind fun t219 => (if t219 = true then ((selfstabref05_Valid.f k l0 6).bind fun t220 => (selfstablaw05_TermPartsAreValid.j0 k l0 a1 (!t220))) else (selfstablaw05_TermPartsAreValid.j0 k l0 a1 true))
theorem selfstablaw05_TermPartsAreValid.mono_l : ∀ k, (∀ y0 y1 y2, LeO (selfstablaw05_TermPartsAreValid.j0 k y0 y1 y2) (selfstablaw05_TermPartsAreValid.j0 (k + 1) y0 y1 y2)) ∧ (∀ y0 y1 y2 y3, LeO (selfstablaw05_TermPartsAreValid.j1 k y0 y1 y2 y3) (selfstablaw05_TermPartsAreValid.j1 (k + 1) y0 y1 y2 y3))
  | 0 => ⟨fun _ _ _ r h => by simp [selfstablaw05_TermPartsAreValid.j0] at h, fun _ _ _ _ r h => by simp [selfstablaw05_TermPartsAreValid.j1] at h⟩
  | k + 1 => by
    obtain ⟨ih0, ih1⟩ := selfstablaw05_TermPartsAreValid.mono_l k
    refine ⟨?_, ?_⟩
    · intro y0 y1 y2
      unfold selfstablaw05_TermPartsAreValid.j0
      repeat' first
      | (with_reducible exact ih0 _ _ _)
      | (with_reducible exact ih1 _ _ _ _)
      | (with_reducible exact selfstablaw05_awake.mono _)
      | (with_reducible exact selfstabref05_Valid.mono _ _ _)
      | (with_reducible exact term_Depth.mono _ _)
      | (with_reducible exact term_End.mono _ _ _)
      | (with_reducible exact term_Nest.mono _ _)
      | (with_reducible exact term_Valid.mono _ _ _)
      | (with_reducible exact LeO.refl _)
      | (with_reducible exact LeO.none _)
      | (with_reducible refine LeO.ite ?_ ?_)
      | (with_reducible refine LeO.bind ?_ (fun _ => ?_))
      | exact ih0 _ _ _
      | exact ih1 _ _ _ _
      | exact selfstablaw05_awake.mono _
      | exact selfstabref05_Valid.mono _ _ _
      | exact term_Depth.mono _ _
      | exact term_End.mono _ _ _
      | exact term_Nest.mono _ _
      | exact term_Valid.mono _ _ _
      | exact LeO.none _
      | refine LeO.ite ?_ ?_
      | refine LeO.bind ?_ (fun _ => ?_)
    · intro y0 y1 y2 y3
      unfold selfstablaw05_TermPartsAreValid.j1
      repeat' first
      | (with_reducible exact ih0 _ _ _)
      | (with_reducible exact ih1 _ _ _ _)
      | (with_reducible exact selfstablaw05_awake.mono _)
      | (with_reducible exact selfstabref05_Valid.mono _ _ _)
      | (with_reducible exact term_Depth.mono _ _)
      | (with_reducible exact term_End.mono _ _ _)
      | (with_reducible exact term_Nest.mono _ _)
      | (with_reducible exact term_Valid.mono _ _ _)
      | (with_reducible exact LeO.refl _)
      | (with_reducible exact LeO.none _)
      | (with_reducible refine LeO.ite ?_ ?_)
      | (with_reducible refine LeO.bind ?_ (fun _ => ?_))
      | exact ih0 _ _ _
      | exact ih1 _ _ _ _
      | exact selfstablaw05_awake.mono _
      | exact selfstabref05_Valid.mono _ _ _
      | exact term_Depth.mono _ _
      | exact term_End.mono _ _ _
      | exact term_Nest.mono _ _
      | exact term_Valid.mono _ _ _
      | exact LeO.none _
      | refine LeO.ite ?_ ?_
      | refine LeO.bind ?_ (fun _ => ?_)
theorem selfstablaw05_TermPartsAreValid.mono : ∀ a0 a1 k, LeO (selfstablaw05_TermPartsAreValid.f k a0 a1) (selfstablaw05_TermPartsAreValid.f (k + 1) a0 a1) := by
  intro a0 a1 k
  obtain ⟨ih0, ih1⟩ := selfstablaw05_TermPartsAreValid.mono_l k
  unfold selfstablaw05_TermPartsAreValid.f
  repeat' first
      | (with_reducible exact ih0 _ _ _)
      | (with_reducible exact ih1 _ _ _ _)
      | (with_reducible exact selfstablaw05_awake.mono _)
      | (with_reducible exact selfstabref05_Valid.mono _ _ _)
      | (with_reducible exact term_Depth.mono _ _)
      | (with_reducible exact term_End.mono _ _ _)
      | (with_reducible exact term_Nest.mono _ _)
      | (with_reducible exact term_Valid.mono _ _ _)
      | (with_reducible exact LeO.refl _)
      | (with_reducible exact LeO.none _)
      | (with_reducible refine LeO.ite ?_ ?_)
      | (with_reducible refine LeO.bind ?_ (fun _ => ?_))
      | exact ih0 _ _ _
      | exact ih1 _ _ _ _
      | exact selfstablaw05_awake.mono _
      | exact selfstabref05_Valid.mono _ _ _
      | exact term_Depth.mono _ _
      | exact term_End.mono _ _ _
      | exact term_Nest.mono _ _
      | exact term_Valid.mono _ _ _
      | exact LeO.none _
      | refine LeO.ite ?_ ?_
      | refine LeO.bind ?_ (fun _ => ?_)
set_option maxHeartbeats 6000000 in
set_option maxRecDepth 100000 in
theorem selfstablaw05_TermPartsAreValid.calls (k : Nat) (A0 : Option Addr) (c0 : Nat) (l0 : List (S31)) (a1 : Int) (r : Bool) (w : World) (hr0 : Kd.C k31 w A0 l0.length l0) (hc0 : l0.length ≤ c0) (h : selfstablaw05_TermPartsAreValid.f k l0 a1 = some r) :
    Calls Try.prog 5 #[.slice A0 l0.length c0, .int .i64 a1] w fun e w' => e = .returned (.bool r) ∧ Below w.heap.size w w' := by
  have HR0 := Aside0.mk hr0
  have HC0 := Aside0.mk hc0
  clear hr0 hc0
  have HB := Aside0.mk (Below.refl w.heap.size w)
  have H : ((selfstabmade_LightExpr.f l0).bind fun t219 => (if t219 = true then ((selfstabref05_Valid.f k l0 6).bind fun t220 => (selfstablaw05_TermPartsAreValid.j0 k l0 a1 (!t220))) else (selfstablaw05_TermPartsAreValid.j0 k l0 a1 true))) = some r := h
  clear h
  have HC3 := Aside0.mk H
  clear H
  go_enter Try.func5, Try.ntmps5
  go_upto_region 1 with (fail)
  go_cut [14] (fun v14 wc => ∃ (kq : Nat) (x14_2 : Bool), v14 = .bool x14_2 ∧ Aside0 (selfstablaw05_TermPartsAreValid.j0 kq l0 a1 x14_2 = some r) ∧ Aside0 (kq ≤ k) ∧ Aside0 (Below w.heap.size w wc))
  case first =>
    have H := HC3.out
    clear HC3
    replace H := Option.bind_eq_some_iff.mp H
    obtain ⟨t219, A40, H⟩ := H
    replace H : (if t219 = true then ((selfstabref05_Valid.f k l0 6).bind fun t220 => (selfstablaw05_TermPartsAreValid.j0 k l0 a1 (!t220))) else (selfstablaw05_TermPartsAreValid.j0 k l0 a1 true)) = some r := H
    have A4 := Aside0.mk A40
    clear A40
    by_cases c5 : t219 = true
    · subst c5
      have H1 : ((selfstabref05_Valid.f k l0 6).bind fun t220 => (selfstablaw05_TermPartsAreValid.j0 k l0 a1 (!t220))) = some r := by rw [if_pos rfl] at H; exact H
      clear H
      have H := H1
      clear H1
      replace H := Option.bind_eq_some_iff.mp H
      obtain ⟨t220, A60, H⟩ := H
      replace H : (selfstablaw05_TermPartsAreValid.j0 k l0 a1 (!t220)) = some r := H
      have A6 := Aside0.mk A60
      clear A60
      have H' := Aside0.mk H
      clear H
      go_wp2_with (first | ((with_reducible refine gate_callee (f := 10) rfl ?_); refine goesL_ (some 8) rfl rfl Try.func10 (by kernel_rfl) rfl #[.slice A0 l0.length c0] rfl (by (try simp only [List.map_toArray, List.map_cons, List.map_nil]); first | done | rfl | (simp only [List.length_drop, List.length_take]; rfl)) ?_; (with_reducible refine (selfstabmade_LightExpr.calls _ _ l0 true _ ?side1 ?side2 A4.out).mono ?_); (case side1 => repeat (first | exact (Kd.C_below HR0.out HB.out) | (with_reducible refine Kd.C_alloc ?_ _) | (with_reducible refine Kd.C_drewN ?_ _) | (with_reducible refine Kd.C_drew ?_))); (case side2 => exact HC0.out); rintro e w' ⟨rfl, ⟨nd, rfl⟩⟩; refine ⟨_, rfl, ?_⟩) | (go_at_call 22; (with_reducible refine (selfstabref05_Valid.calls k _ _ l0 6 t220 _ ?side1 ?side2 A6.out).mono ?_); (case side1 => repeat (first | exact (Kd.C_below HR0.out (by repeat (first | (with_reducible first | exact HB.out | apply below_alloc | apply pw_below_drewN | apply below_drew1) | exact HB.out))) | (with_reducible refine Kd.C_alloc ?_ _) | (with_reducible refine Kd.C_drewN ?_ _) | (with_reducible refine Kd.C_drew ?_))); (case side2 => exact HC0.out); rintro e w7 ⟨rfl, hb⟩; have n0_ := Aside0.mk (below_step (by repeat (first | (with_reducible first | exact HB.out | apply below_alloc | apply pw_below_drewN | apply below_drew1) | exact HB.out)) hb); clear HB; have HB := n0_; clear n0_; (try clear hb); (try clear hb2); (try clear hk); (try clear hi)))
      go_meet
      case rel => exact ⟨_, (!t220), (by first | rfl | (simp; done) | (simp [*]; done)), H', ⟨by first | omega | exact Nat.le_refl _⟩, ⟨by repeat (first | (with_reducible first | exact HB.out | apply below_alloc | apply pw_below_drewN | apply below_drew1) | exact HB.out)⟩⟩
    · replace c5 := Bool.eq_false_iff.mpr c5
      subst c5
      have H1 : (selfstablaw05_TermPartsAreValid.j0 k l0 a1 true) = some r := by rw [if_neg (show ¬ (false = true) by decide)] at H; exact H
      clear H
      have H := H1
      clear H1
      have H' := Aside0.mk H
      clear H
      go_wp2_with (first | ((with_reducible refine gate_callee (f := 10) rfl ?_); refine goesL_ (some 8) rfl rfl Try.func10 (by kernel_rfl) rfl #[.slice A0 l0.length c0] rfl (by (try simp only [List.map_toArray, List.map_cons, List.map_nil]); first | done | rfl | (simp only [List.length_drop, List.length_take]; rfl)) ?_; (with_reducible refine (selfstabmade_LightExpr.calls _ _ l0 false _ ?side1 ?side2 A4.out).mono ?_); (case side1 => repeat (first | exact (Kd.C_below HR0.out HB.out) | (with_reducible refine Kd.C_alloc ?_ _) | (with_reducible refine Kd.C_drewN ?_ _) | (with_reducible refine Kd.C_drew ?_))); (case side2 => exact HC0.out); rintro e w' ⟨rfl, ⟨nd, rfl⟩⟩; refine ⟨_, rfl, ?_⟩))
      go_meet
      case rel => exact ⟨_, (true), (by first | rfl | (simp; done) | (simp [*]; done)), H', ⟨by first | omega | exact Nat.le_refl _⟩, ⟨by repeat (first | (with_reducible first | exact HB.out | apply below_alloc | apply pw_below_drewN | apply below_drew1) | exact HB.out)⟩⟩
  case rest =>
    clear HC3
    try clear c1
    try clear p2
    try clear c5
    obtain ⟨kq, x14_2, rfl, HA, HJ2, HB⟩ := hcut
    cases kq with
    | zero => exact absurd HA.out (by simp [selfstablaw05_TermPartsAreValid.j0])
    | succ kj2 =>
      have H := HA.out
      clear HA
      simp only [selfstablaw05_TermPartsAreValid.j0] at H
      by_cases c8 : x14_2 = true
      · subst c8
        have H1 : ((selfstablaw05_awake.f kj2).bind fun t221 => (some t221)) = some r := by rw [if_pos rfl] at H; exact H
        clear H
        have H := H1
        clear H1
        replace H := Option.bind_eq_some_iff.mp H
        obtain ⟨t221, A90, H⟩ := H
        replace H : (some t221) = some r := H
        have A9 := Aside0.mk A90
        clear A90
        obtain rfl := Option.some.inj H
        go_wp2_with (first | ((with_reducible refine gate_callee (f := 11) rfl ?_); refine goesL_ (some 15) rfl rfl Try.func11 (by kernel_rfl) rfl #[] rfl (by (try simp only [List.map_toArray, List.map_cons, List.map_nil]); first | done | rfl | (simp only [List.length_drop, List.length_take]; rfl)) ?_; (with_reducible refine (selfstablaw05_awake.calls kj2  t221 _ A9.out).mono ?_); rintro e w10 ⟨rfl, hb⟩; refine ⟨_, rfl, ?_⟩; have n0_ := Aside0.mk (below_step (by repeat (first | (with_reducible first | exact HB.out | apply below_alloc | apply pw_below_drewN | apply below_drew1) | exact HB.out)) hb); clear HB; have HB := n0_; clear n0_; (try clear hb); (try clear hb2); (try clear hk); (try clear hi)))
        go_ret
        exact ⟨by first | rfl | (simp [errW_none, errW_some] <;> rfl) | (simp [*, errW_none, errW_some] <;> rfl), by repeat (first | (with_reducible first | exact HB.out | apply below_alloc | apply pw_below_drewN | apply below_drew1) | exact HB.out)⟩
      · replace c8 := Bool.eq_false_iff.mpr c8
        subst c8
        have H1 : ((selfstabmade_Mod.f a1 (l0.length : Int)).bind fun t222 => ((term_End.f kj2 l0 t222).bind fun t223 => (if t223 ≤ t222 then (selfstablaw05_TermPartsAreValid.j1 kj2 l0 t222 t223 true) else (selfstablaw05_TermPartsAreValid.j1 kj2 l0 t222 t223 (decide (t223 > (l0.length : Int))))))) = some r := by rw [if_neg (show ¬ (false = true) by decide)] at H; exact H
        clear H
        have H := H1
        clear H1
        replace H := Option.bind_eq_some_iff.mp H
        obtain ⟨t222, A110, H⟩ := H
        replace H : ((term_End.f kj2 l0 t222).bind fun t223 => (if t223 ≤ t222 then (selfstablaw05_TermPartsAreValid.j1 kj2 l0 t222 t223 true) else (selfstablaw05_TermPartsAreValid.j1 kj2 l0 t222 t223 (decide (t223 > (l0.length : Int)))))) = some r := H
        have A11 := Aside0.mk A110
        clear A110
        replace H := Option.bind_eq_some_iff.mp H
        obtain ⟨t223, A120, H⟩ := H
        replace H : (if t223 ≤ t222 then (selfstablaw05_TermPartsAreValid.j1 kj2 l0 t222 t223 true) else (selfstablaw05_TermPartsAreValid.j1 kj2 l0 t222 t223 (decide (t223 > (l0.length : Int))))) = some r := H
        have A12 := Aside0.mk A120
        clear A120
        have HC13 := Aside0.mk H
        clear H
        go_upto_region 5 with (first | ((with_reducible refine gate_callee (f := 23) rfl ?_); refine goesL_ (some 19) rfl rfl Try.func23 (by kernel_rfl) rfl #[.int .i64 a1, .int .i64 (l0.length : Int)] rfl (by (try simp only [List.map_toArray, List.map_cons, List.map_nil]); first | done | rfl | (simp only [List.length_drop, List.length_take]; rfl)) ?_; (with_reducible refine (selfstabmade_Mod.calls a1 (l0.length : Int) t222 _ A11.out).mono ?_); rintro e w' ⟨rfl, ⟨nd, rfl⟩⟩; refine ⟨_, rfl, ?_⟩) | ((with_reducible refine gate_callee (f := 14) rfl ?_); refine goesL_ (some 22) rfl rfl Try.func14 (by kernel_rfl) rfl #[.slice A0 l0.length c0, .int .i64 t222] rfl (by (try simp only [List.map_toArray, List.map_cons, List.map_nil]); first | done | rfl | (simp only [List.length_drop, List.length_take]; rfl)) ?_; (with_reducible refine (term_End.calls kj2 _ _ l0 t222 t223 _ ?side1 ?side2 A12.out).mono ?_); (case side1 => repeat (first | exact (Kd.C_below HR0.out (by repeat (first | (with_reducible first | exact HB.out | apply below_alloc | apply pw_below_drewN | apply below_drew1) | exact HB.out))) | (with_reducible refine Kd.C_alloc ?_ _) | (with_reducible refine Kd.C_drewN ?_ _) | (with_reducible refine Kd.C_drew ?_))); (case side2 => exact HC0.out); rintro e w' ⟨rfl, ⟨nd, rfl⟩⟩; refine ⟨_, rfl, ?_⟩))
        (try simp only [Act.put, List.setIfInBounds_toArray, List.set_cons_zero, List.set_cons_succ])
        go_cut [31] (fun v31 wc => ∃ (kq : Nat) (x31_12 : Bool), v31 = .bool x31_12 ∧ Aside0 (selfstablaw05_TermPartsAreValid.j1 kq l0 t222 t223 x31_12 = some r) ∧ Aside0 (kq ≤ kj2) ∧ Aside0 (Below w.heap.size w wc))
        case first =>
          have H := HC13.out
          clear HC13
          by_cases c14 : t223 ≤ t222
          · rw [if_pos c14] at H
            have c14b0 : decide (t223 ≤ t222) = true := decide_eq_true c14
            clear c14
            (first | rw [c14b0] | (simp only [i64_w, i32_w]; rw [c14b0]) | skip)
            have H' := Aside0.mk H
            clear H
            go_wp2
            go_meet
            case rel => exact ⟨_, (true), (by first | rfl | (simp; done) | (simp [*]; done)), H', ⟨by have := HJ2.out; first | omega | exact Nat.le_refl _⟩, ⟨by repeat (first | (with_reducible first | exact HB.out | apply below_alloc | apply pw_below_drewN | apply below_drew1) | exact HB.out)⟩⟩
          · rw [if_neg c14] at H
            have c14b0 : decide (t223 ≤ t222) = false := decide_eq_false c14
            clear c14
            (first | rw [c14b0] | (simp only [i64_w, i32_w]; rw [c14b0]) | skip)
            have H' := Aside0.mk H
            clear H
            go_wp2
            go_meet
            case rel => exact ⟨_, (decide (t223 > (l0.length : Int))), (by first | rfl | (simp; done) | (simp [*]; done)), H', ⟨by have := HJ2.out; first | omega | exact Nat.le_refl _⟩, ⟨by repeat (first | (with_reducible first | exact HB.out | apply below_alloc | apply pw_below_drewN | apply below_drew1) | exact HB.out)⟩⟩
        case rest =>
          clear HC13
          try clear c1
          try clear c2
          try clear p2
          try clear c5
          try clear c8
          try clear c10
          try clear c11
          try clear c14
          try clear c14b0
          try clear p2
          obtain ⟨kq, x31_12, rfl, HA, HJ12, HB⟩ := hcut
          cases kq with
          | zero => exact absurd HA.out (by simp [selfstablaw05_TermPartsAreValid.j1])
          | succ kj12 =>
            have H := HA.out
            clear HA
            simp only [selfstablaw05_TermPartsAreValid.j1] at H
            by_cases c15 : x31_12 = true
            · subst c15
              have H1 : (some false) = some r := by rw [if_pos rfl] at H; exact H
              clear H
              have H := H1
              clear H1
              obtain rfl := Option.some.inj H
              go_wp2
              go_ret
              exact ⟨by first | rfl | (simp [errW_none, errW_some] <;> rfl) | (simp [*, errW_none, errW_some] <;> rfl), by repeat (first | (with_reducible first | exact HB.out | apply below_alloc | apply pw_below_drewN | apply below_drew1) | exact HB.out)⟩
            · replace c15 := Bool.eq_false_iff.mpr c15
              subst c15
              have H1 : (if 0 ≤ t222 then (if t222 ≤ t223 then (if t223 ≤ (l0.length : Int) then ((some ((l0.take (t223 : Int).toNat).drop (t222 : Int).toNat : List (S31))).bind fun y224 => (if ([] : List (S31)).length + y224.length < 8796093022208 then ((some (([] : List (S31)) ++ y224 : List (S31))).bind fun y228 => ((selfstablaw05_awake.f kj12).bind fun t231 => (if t231 = true then ((term_Valid.f kj12 y228 6).bind fun t232 => (if t232 = true then ((term_Depth.f kj12 y228).bind fun t233 => ((term_Depth.f kj12 l0).bind fun t234 => (if t233 ≤ t234 then ((term_Nest.f kj12 y228).bind fun t235 => ((term_Nest.f kj12 l0).bind fun t236 => (if t235 ≤ t236 then (if t222 = 0 then (some true) else ((term_Depth.f kj12 y228).bind fun t233 => ((term_Depth.f kj12 l0).bind fun t234 => (some (decide (t233 < t234)))))) else (some false)))) else (some false)))) else (some false))) else (some false)))) else (none))) else (none)) else (none)) else (none)) = some r := by rw [if_neg (show ¬ (false = true) by decide)] at H; exact H
              clear H
              have H := H1
              clear H1
              by_cases c16 : 0 ≤ t222
              · rw [if_pos c16] at H
                have c16b0 := eq_true c16
                have c16b1 : decide (0 ≤ t222) = true := decide_eq_true c16
                clear c16
                by_cases c17 : t222 ≤ t223
                · rw [if_pos c17] at H
                  have c17b0 := eq_true c17
                  have c17b1 : decide (t222 ≤ t223) = true := decide_eq_true c17
                  clear c17
                  by_cases c18 : t223 ≤ (l0.length : Int)
                  · rw [if_pos c18] at H
                    have c18b0 := eq_true c18
                    have c18b1 : decide (t223 ≤ (l0.length : Int)) = true := decide_eq_true c18
                    clear c18
                    obtain ⟨y224, hy224⟩ : ∃ y_ : List (S31), y_ = ((l0.take (t223 : Int).toNat).drop (t222 : Int).toNat) := ⟨_, rfl⟩
                    replace H : (if ([] : List (S31)).length + y224.length < 8796093022208 then ((some (([] : List (S31)) ++ y224 : List (S31))).bind fun y228 => ((selfstablaw05_awake.f kj12).bind fun t231 => (if t231 = true then ((term_Valid.f kj12 y228 6).bind fun t232 => (if t232 = true then ((term_Depth.f kj12 y228).bind fun t233 => ((term_Depth.f kj12 l0).bind fun t234 => (if t233 ≤ t234 then ((term_Nest.f kj12 y228).bind fun t235 => ((term_Nest.f kj12 l0).bind fun t236 => (if t235 ≤ t236 then (if t222 = 0 then (some true) else ((term_Depth.f kj12 y228).bind fun t233 => ((term_Depth.f kj12 l0).bind fun t234 => (some (decide (t233 < t234)))))) else (some false)))) else (some false)))) else (some false))) else (some false)))) else (none)) = some r := by first | (rw [hy224]; with_reducible exact H) | (have H2_ := (Option.bind_some _ _).symm.trans H; rw [hy224]; with_reducible exact H2_) | (have H2_ := (Option.bind_some _ _).symm.trans H; with_reducible exact H2_) | with_reducible exact H | (rw [hy224]; exact H) | exact H
                    have Ny224 := Aside0.mk hy224
                    clear hy224
                    by_cases c19 : ([] : List (S31)).length + y224.length < 8796093022208
                    · rw [if_pos c19] at H
                      have LMc19 := Aside0.mk c19
                      clear c19
                      obtain ⟨y228, hy228⟩ : ∃ y_ : List (S31), y_ = (([] : List (S31)) ++ y224) := ⟨_, rfl⟩
                      replace H : ((selfstablaw05_awake.f kj12).bind fun t231 => (if t231 = true then ((term_Valid.f kj12 y228 6).bind fun t232 => (if t232 = true then ((term_Depth.f kj12 y228).bind fun t233 => ((term_Depth.f kj12 l0).bind fun t234 => (if t233 ≤ t234 then ((term_Nest.f kj12 y228).bind fun t235 => ((term_Nest.f kj12 l0).bind fun t236 => (if t235 ≤ t236 then (if t222 = 0 then (some true) else ((term_Depth.f kj12 y228).bind fun t233 => ((term_Depth.f kj12 l0).bind fun t234 => (some (decide (t233 < t234)))))) else (some false)))) else (some false)))) else (some false))) else (some false))) = some r := by first | (rw [hy228]; with_reducible exact H) | (have H2_ := (Option.bind_some _ _).symm.trans H; rw [hy228]; with_reducible exact H2_) | (have H2_ := (Option.bind_some _ _).symm.trans H; with_reducible exact H2_) | with_reducible exact H | (rw [hy228]; exact H) | exact H
                      have Ny228 := Aside0.mk hy228
                      clear hy228
                      replace H := Option.bind_eq_some_iff.mp H
                      obtain ⟨t231, A200, H⟩ := H
                      replace H : (if t231 = true then ((term_Valid.f kj12 y228 6).bind fun t232 => (if t232 = true then ((term_Depth.f kj12 y228).bind fun t233 => ((term_Depth.f kj12 l0).bind fun t234 => (if t233 ≤ t234 then ((term_Nest.f kj12 y228).bind fun t235 => ((term_Nest.f kj12 l0).bind fun t236 => (if t235 ≤ t236 then (if t222 = 0 then (some true) else ((term_Depth.f kj12 y228).bind fun t233 => ((term_Depth.f kj12 l0).bind fun t234 => (some (decide (t233 < t234)))))) else (some false)))) else (some false)))) else (some false))) else (some false)) = some r := H
                      have A20 := Aside0.mk A200
                      clear A200
                      by_cases c21 : t231 = true
                      · subst c21
                        have H1 : ((term_Valid.f kj12 y228 6).bind fun t232 => (if t232 = true then ((term_Depth.f kj12 y228).bind fun t233 => ((term_Depth.f kj12 l0).bind fun t234 => (if t233 ≤ t234 then ((term_Nest.f kj12 y228).bind fun t235 => ((term_Nest.f kj12 l0).bind fun t236 => (if t235 ≤ t236 then (if t222 = 0 then (some true) else ((term_Depth.f kj12 y228).bind fun t233 => ((term_Depth.f kj12 l0).bind fun t234 => (some (decide (t233 < t234)))))) else (some false)))) else (some false)))) else (some false))) = some r := by rw [if_pos rfl] at H; exact H
                        clear H
                        have H := H1
                        clear H1
                        replace H := Option.bind_eq_some_iff.mp H
                        obtain ⟨t232, A220, H⟩ := H
                        replace H : (if t232 = true then ((term_Depth.f kj12 y228).bind fun t233 => ((term_Depth.f kj12 l0).bind fun t234 => (if t233 ≤ t234 then ((term_Nest.f kj12 y228).bind fun t235 => ((term_Nest.f kj12 l0).bind fun t236 => (if t235 ≤ t236 then (if t222 = 0 then (some true) else ((term_Depth.f kj12 y228).bind fun t233 => ((term_Depth.f kj12 l0).bind fun t234 => (some (decide (t233 < t234)))))) else (some false)))) else (some false)))) else (some false)) = some r := H
                        have A22 := Aside0.mk A220
                        clear A220
                        by_cases c23 : t232 = true
                        · subst c23
                          have H1 : ((term_Depth.f kj12 y228).bind fun t233 => ((term_Depth.f kj12 l0).bind fun t234 => (if t233 ≤ t234 then ((term_Nest.f kj12 y228).bind fun t235 => ((term_Nest.f kj12 l0).bind fun t236 => (if t235 ≤ t236 then (if t222 = 0 then (some true) else ((term_Depth.f kj12 y228).bind fun t233 => ((term_Depth.f kj12 l0).bind fun t234 => (some (decide (t233 < t234)))))) else (some false)))) else (some false)))) = some r := by rw [if_pos rfl] at H; exact H
                          clear H
                          have H := H1
                          clear H1
                          replace H := Option.bind_eq_some_iff.mp H
                          obtain ⟨t233, A240, H⟩ := H
                          replace H : ((term_Depth.f kj12 l0).bind fun t234 => (if t233 ≤ t234 then ((term_Nest.f kj12 y228).bind fun t235 => ((term_Nest.f kj12 l0).bind fun t236 => (if t235 ≤ t236 then (if t222 = 0 then (some true) else ((term_Depth.f kj12 y228).bind fun t233 => ((term_Depth.f kj12 l0).bind fun t234 => (some (decide (t233 < t234)))))) else (some false)))) else (some false))) = some r := H
                          have A24 := Aside0.mk A240
                          clear A240
                          replace H := Option.bind_eq_some_iff.mp H
                          obtain ⟨t234, A250, H⟩ := H
                          replace H : (if t233 ≤ t234 then ((term_Nest.f kj12 y228).bind fun t235 => ((term_Nest.f kj12 l0).bind fun t236 => (if t235 ≤ t236 then (if t222 = 0 then (some true) else ((term_Depth.f kj12 y228).bind fun t233 => ((term_Depth.f kj12 l0).bind fun t234 => (some (decide (t233 < t234)))))) else (some false)))) else (some false)) = some r := H
                          have A25 := Aside0.mk A250
                          clear A250
                          by_cases c26 : t233 ≤ t234
                          · rw [if_pos c26] at H
                            have c26b0 : decide (t233 ≤ t234) = true := decide_eq_true c26
                            clear c26
                            replace H := Option.bind_eq_some_iff.mp H
                            obtain ⟨t235, A270, H⟩ := H
                            replace H : ((term_Nest.f kj12 l0).bind fun t236 => (if t235 ≤ t236 then (if t222 = 0 then (some true) else ((term_Depth.f kj12 y228).bind fun t233 => ((term_Depth.f kj12 l0).bind fun t234 => (some (decide (t233 < t234)))))) else (some false))) = some r := H
                            have A27 := Aside0.mk A270
                            clear A270
                            replace H := Option.bind_eq_some_iff.mp H
                            obtain ⟨t236, A280, H⟩ := H
                            replace H : (if t235 ≤ t236 then (if t222 = 0 then (some true) else ((term_Depth.f kj12 y228).bind fun t233 => ((term_Depth.f kj12 l0).bind fun t234 => (some (decide (t233 < t234)))))) else (some false)) = some r := H
                            have A28 := Aside0.mk A280
                            clear A280
                            by_cases c29 : t235 ≤ t236
                            · rw [if_pos c29] at H
                              have c29b0 : decide (t235 ≤ t236) = true := decide_eq_true c29
                              clear c29
                              by_cases c30 : t222 = 0
                              · rw [if_pos c30] at H
                                have c30b0 : (t222 == 0) = true := beq_iff_eq.mpr c30
                                have c30b1 : (t222 != 0) = false := bne_eq_false_iff_eq.mpr c30
                                clear c30
                                obtain rfl := Option.some.inj H
                                have q31 : (t223 : Int) ≤ ((l0.length : Int) : Int) := of_decide_eq_true (by first | (with_reducible assumption) | assumption)
                                obtain ⟨i031, hi031, _, hsz31, _⟩ := info_parts info31
                                have hroom31 : l0.length ≤ c0 := HC0.out
                                have hC31 : Kd.C k31 _ A0 l0.length l0 := HR0.out
                                have ql31 : (t222 : Int) ≤ (t223 : Int) := of_decide_eq_true (by first | (with_reducible assumption) | assumption)
                                have q031 : (0 : Int) ≤ (t222 : Int) := of_decide_eq_true (by first | (with_reducible assumption) | assumption)
                                have hcut31 := cut_mid (P := Try.prog) 22 31 .i64 .i64 Try.underlying22 hi031 2 hsz31 A0 l0.length c0 t222 t223 q031 ql31 q31 hroom31
                                have hr31 := Kd.C_mid (lo := (t222 : Int).toNat) (hi := (t223 : Int).toNat) (c := c0) hC31 (by omega) (by omega) hroom31
                                obtain ⟨A31, hA31⟩ : ∃ A1, A1 = (if c0 = (t222 : Int).toNat then A0 else (A0 : Option Addr).map (·.add ((t222 : Int).toNat * 2))) := ⟨_, rfl⟩
                                obtain ⟨c31, hc31⟩ : ∃ c1, c1 = c0 - (t222 : Int).toNat := ⟨_, rfl⟩
                                have hy31 : y224.length = (t223 : Int).toNat - (t222 : Int).toNat := (by rw [Ny224.out, List.length_drop, List.length_take] <;> omega)
                                rw [show ((l0).take (t223 : Int).toNat).drop (t222 : Int).toNat = y224 from Ny224.out.symm] at hr31
                                replace hr31 : Kd.C k31 _ A31 y224.length y224 := (by rw [hA31]; exact hr31)
                                rw [← hy31, ← hA31, ← hc31] at hcut31
                                have HR227 := Aside0.mk hr31
                                have HC227 := Aside0.mk (show y224.length ≤ c31 from by rw [hy31, hc31]; exact Nat.sub_le_sub_right (Nat.le_trans (by omega) hroom31) _)
                                clear hr31 hC31 hroom31 hi031 hsz31 hc31
                                have KY31 := Aside0.mk hy31
                                have KA31 := Aside0.mk hA31
                                clear hy31 hA31
                                replace q31 := eq_true q31
                                go_wp2_with (first | ((with_reducible refine gate_builtin (b := .append) (xs := #[.const (.slice none 0 0), .tmp 35]) rfl ?_); (try (refine gate_guard (by rfl) ?_; dsimp only)); at_builtin; refine Kd.R_append_rows k31 (w0 := w) w.heap.size rfl (.const (.slice none 0 0)) (.tmp 35) 22 31 (.agg #[(.int .i64 0), (.int .i64 0)]) 16 rfl Try.underlying22 info31 rfl (by decide) (by omega) (.slice none 0 0) ([] : List (S31)) y224 _ _ _ (fun _ => True) (fun _ => False) rfl rfl ?aO ?aR (fun _ _ h => h) (fun _ h => h.elim) ?aF ?aB ?aS ?aL ?_; (case aR => (try change Kd.C k31 _ _ _ _); repeat (first | exact (Kd.C_below HR227.out HB.out) | (with_reducible refine Kd.C_alloc ?_ _) | (with_reducible refine Kd.C_drewN ?_ _) | (with_reducible refine Kd.C_drew ?_))); (case aB => exact (by repeat (first | (with_reducible first | exact HB.out | apply below_alloc | apply pw_below_drewN | apply below_drew1) | exact HB.out))); (case aF => exact (fun _ _ => trivial)); (case aO => exact ((Kd.R_nil _ _ _ _ (fun _ => True)))); (case aS => exact (below_size (by repeat (first | (with_reducible first | exact HB.out | apply below_alloc | apply pw_below_drewN | apply below_drew1) | exact HB.out)))); (case aL => have := LMc19.out; omega); intro v229 w32 ho hb hg hat; rw [← Ny228.out] at ho; have n0_ := Aside0.mk (hb); have n1_ := Aside0.mk (ho); clear HB; have HB := n0_; have HO230 := n1_; clear n0_ n1_; clear ho hb hg hat) | ((with_reducible refine gate_callee (f := 11) rfl ?_); refine goesL_ (some 37) rfl rfl Try.func11 (by kernel_rfl) rfl #[] rfl (by (try simp only [List.map_toArray, List.map_cons, List.map_nil]); first | done | rfl | (simp only [List.length_drop, List.length_take]; rfl)) ?_; (with_reducible refine (selfstablaw05_awake.calls kj12  true _ A20.out).mono ?_); rintro e w33 ⟨rfl, hb⟩; refine ⟨_, rfl, ?_⟩; have n0_ := Aside0.mk (Kd.R_below (by (with_reducible repeat (first | apply Kd.R_alloc | apply Kd.R_drewN | apply Kd.R_drew)); exact HO230.out) hb); have n1_ := Aside0.mk (below_step (by repeat (first | (with_reducible first | exact HB.out | apply below_alloc | apply pw_below_drewN | apply below_drew1) | exact HB.out)) hb); clear HO230; clear HB; have HO230 := n0_; have HB := n1_; clear n0_ n1_; (try clear hb); (try clear hb2); (try clear hk); (try clear hi); obtain ⟨Ao34, co34, eo34⟩ := Kd.R_slice HO230.out; subst eo34) | (go_at_call 24; (with_reducible refine (term_Valid.calls kj12 _ _ y228 6 true _ ?side1 ?side2 A22.out).mono ?_); (case side1 => repeat (first | exact (Kd.R_reads' HO230.out).2.2 | (with_reducible refine Kd.C_alloc ?_ _) | (with_reducible refine Kd.C_drewN ?_ _) | (with_reducible refine Kd.C_drew ?_))); (case side2 => exact (Kd.R_reads' HO230.out).2.1); rintro e w35 ⟨rfl, hb⟩; have n0_ := Aside0.mk (Kd.R_below (by (with_reducible repeat (first | apply Kd.R_alloc | apply Kd.R_drewN | apply Kd.R_drew)); exact HO230.out) hb); have n1_ := Aside0.mk (below_step (by repeat (first | (with_reducible first | exact HB.out | apply below_alloc | apply pw_below_drewN | apply below_drew1) | exact HB.out)) hb); clear HO230; clear HB; have HO230 := n0_; have HB := n1_; clear n0_ n1_; (try clear hb); (try clear hb2); (try clear hk); (try clear hi)) | (go_at_call 18; (with_reducible refine (term_Depth.calls kj12 _ _ y228 t233 _ ?side1 ?side2 A24.out).mono ?_); (case side1 => repeat (first | exact (Kd.R_reads' HO230.out).2.2 | (with_reducible refine Kd.C_alloc ?_ _) | (with_reducible refine Kd.C_drewN ?_ _) | (with_reducible refine Kd.C_drew ?_))); (case side2 => exact (Kd.R_reads' HO230.out).2.1); rintro e w36 ⟨rfl, hb⟩; have n0_ := Aside0.mk (Kd.R_below (by (with_reducible repeat (first | apply Kd.R_alloc | apply Kd.R_drewN | apply Kd.R_drew)); exact HO230.out) hb); have n1_ := Aside0.mk (below_step (by repeat (first | (with_reducible first | exact HB.out | apply below_alloc | apply pw_below_drewN | apply below_drew1) | exact HB.out)) hb); clear HO230; clear HB; have HO230 := n0_; have HB := n1_; clear n0_ n1_; (try clear hb); (try clear hb2); (try clear hk); (try clear hi)) | (go_at_call 18; (with_reducible refine (term_Depth.calls kj12 _ _ l0 t234 _ ?side1 ?side2 A25.out).mono ?_); (case side1 => repeat (first | exact (Kd.C_below HR0.out HB.out) | (with_reducible refine Kd.C_alloc ?_ _) | (with_reducible refine Kd.C_drewN ?_ _) | (with_reducible refine Kd.C_drew ?_))); (case side2 => exact HC0.out); rintro e w37 ⟨rfl, hb⟩; have n0_ := Aside0.mk (Kd.R_below (by (with_reducible repeat (first | apply Kd.R_alloc | apply Kd.R_drewN | apply Kd.R_drew)); exact HO230.out) hb); have n1_ := Aside0.mk (below_step (by repeat (first | (with_reducible first | exact HB.out | apply below_alloc | apply pw_below_drewN | apply below_drew1) | exact HB.out)) hb); clear HO230; clear HB; have HO230 := n0_; have HB := n1_; clear n0_ n1_; (try clear hb); (try clear hb2); (try clear hk); (try clear hi)) | (go_at_call 20; (with_reducible refine (term_Nest.calls kj12 _ _ y228 t235 _ ?side1 ?side2 A27.out).mono ?_); (case side1 => repeat (first | exact (Kd.R_reads' HO230.out).2.2 | (with_reducible refine Kd.C_alloc ?_ _) | (with_reducible refine Kd.C_drewN ?_ _) | (with_reducible refine Kd.C_drew ?_))); (case side2 => exact (Kd.R_reads' HO230.out).2.1); rintro e w38 ⟨rfl, hb⟩; have n0_ := Aside0.mk (Kd.R_below (by (with_reducible repeat (first | apply Kd.R_alloc | apply Kd.R_drewN | apply Kd.R_drew)); exact HO230.out) hb); have n1_ := Aside0.mk (below_step (by repeat (first | (with_reducible first | exact HB.out | apply below_alloc | apply pw_below_drewN | apply below_drew1) | exact HB.out)) hb); clear HO230; clear HB; have HO230 := n0_; have HB := n1_; clear n0_ n1_; (try clear hb); (try clear hb2); (try clear hk); (try clear hi)) | (go_at_call 20; (with_reducible refine (term_Nest.calls kj12 _ _ l0 t236 _ ?side1 ?side2 A28.out).mono ?_); (case side1 => repeat (first | exact (Kd.C_below HR0.out HB.out) | (with_reducible refine Kd.C_alloc ?_ _) | (with_reducible refine Kd.C_drewN ?_ _) | (with_reducible refine Kd.C_drew ?_))); (case side2 => exact HC0.out); rintro e w39 ⟨rfl, hb⟩; have n0_ := Aside0.mk (Kd.R_below (by (with_reducible repeat (first | apply Kd.R_alloc | apply Kd.R_drewN | apply Kd.R_drew)); exact HO230.out) hb); have n1_ := Aside0.mk (below_step (by repeat (first | (with_reducible first | exact HB.out | apply below_alloc | apply pw_below_drewN | apply below_drew1) | exact HB.out)) hb); clear HO230; clear HB; have HO230 := n0_; have HB := n1_; clear n0_ n1_; (try clear hb); (try clear hb2); (try clear hk); (try clear hi)))
                                go_ret
                                exact ⟨by first | rfl | (simp [errW_none, errW_some] <;> rfl) | (simp [*, errW_none, errW_some] <;> rfl), by repeat (first | (with_reducible first | exact HB.out | apply below_alloc | apply pw_below_drewN | apply below_drew1) | exact HB.out)⟩
                              · rw [if_neg c30] at H
                                have c30b0 : (t222 == 0) = false := beq_eq_false_iff_ne.mpr c30
                                have c30b1 : (t222 != 0) = true := bne_iff_ne.mpr c30
                                replace H := Option.bind_eq_some_iff.mp H
                                obtain ⟨tx233_, A400, H⟩ := H
                                have ex_ : t233 = tx233_ := Option.some.inj (A24.out.symm.trans A400)
                                subst ex_
                                replace H : ((term_Depth.f kj12 l0).bind fun t234 => (some (decide (t233 < t234)))) = some r := H
                                have A40 := Aside0.mk A400
                                clear A400
                                replace H := Option.bind_eq_some_iff.mp H
                                obtain ⟨tx234_, A410, H⟩ := H
                                have ex_ : t234 = tx234_ := Option.some.inj (A25.out.symm.trans A410)
                                subst ex_
                                replace H : (some (decide (t233 < t234))) = some r := H
                                have A41 := Aside0.mk A410
                                clear A410
                                obtain rfl := Option.some.inj H
                                have q42 : (t223 : Int) ≤ ((l0.length : Int) : Int) := of_decide_eq_true (by first | (with_reducible assumption) | assumption)
                                obtain ⟨i042, hi042, _, hsz42, _⟩ := info_parts info31
                                have hroom42 : l0.length ≤ c0 := HC0.out
                                have hC42 : Kd.C k31 _ A0 l0.length l0 := HR0.out
                                have ql42 : (t222 : Int) ≤ (t223 : Int) := of_decide_eq_true (by first | (with_reducible assumption) | assumption)
                                have q042 : (0 : Int) ≤ (t222 : Int) := of_decide_eq_true (by first | (with_reducible assumption) | assumption)
                                have hcut42 := cut_mid (P := Try.prog) 22 31 .i64 .i64 Try.underlying22 hi042 2 hsz42 A0 l0.length c0 t222 t223 q042 ql42 q42 hroom42
                                have hr42 := Kd.C_mid (lo := (t222 : Int).toNat) (hi := (t223 : Int).toNat) (c := c0) hC42 (by omega) (by omega) hroom42
                                obtain ⟨A42, hA42⟩ : ∃ A1, A1 = (if c0 = (t222 : Int).toNat then A0 else (A0 : Option Addr).map (·.add ((t222 : Int).toNat * 2))) := ⟨_, rfl⟩
                                obtain ⟨c42, hc42⟩ : ∃ c1, c1 = c0 - (t222 : Int).toNat := ⟨_, rfl⟩
                                have hy42 : y224.length = (t223 : Int).toNat - (t222 : Int).toNat := (by rw [Ny224.out, List.length_drop, List.length_take] <;> omega)
                                rw [show ((l0).take (t223 : Int).toNat).drop (t222 : Int).toNat = y224 from Ny224.out.symm] at hr42
                                replace hr42 : Kd.C k31 _ A42 y224.length y224 := (by rw [hA42]; exact hr42)
                                rw [← hy42, ← hA42, ← hc42] at hcut42
                                have HR227 := Aside0.mk hr42
                                have HC227 := Aside0.mk (show y224.length ≤ c42 from by rw [hy42, hc42]; exact Nat.sub_le_sub_right (Nat.le_trans (by omega) hroom42) _)
                                clear hr42 hC42 hroom42 hi042 hsz42 hc42
                                have KY42 := Aside0.mk hy42
                                have KA42 := Aside0.mk hA42
                                clear hy42 hA42
                                replace q42 := eq_true q42
                                go_wp2_with (first | ((with_reducible refine gate_builtin (b := .append) (xs := #[.const (.slice none 0 0), .tmp 35]) rfl ?_); (try (refine gate_guard (by rfl) ?_; dsimp only)); at_builtin; refine Kd.R_append_rows k31 (w0 := w) w.heap.size rfl (.const (.slice none 0 0)) (.tmp 35) 22 31 (.agg #[(.int .i64 0), (.int .i64 0)]) 16 rfl Try.underlying22 info31 rfl (by decide) (by omega) (.slice none 0 0) ([] : List (S31)) y224 _ _ _ (fun _ => True) (fun _ => False) rfl rfl ?aO ?aR (fun _ _ h => h) (fun _ h => h.elim) ?aF ?aB ?aS ?aL ?_; (case aR => (try change Kd.C k31 _ _ _ _); repeat (first | exact (Kd.C_below HR227.out HB.out) | (with_reducible refine Kd.C_alloc ?_ _) | (with_reducible refine Kd.C_drewN ?_ _) | (with_reducible refine Kd.C_drew ?_))); (case aB => exact (by repeat (first | (with_reducible first | exact HB.out | apply below_alloc | apply pw_below_drewN | apply below_drew1) | exact HB.out))); (case aF => exact (fun _ _ => trivial)); (case aO => exact ((Kd.R_nil _ _ _ _ (fun _ => True)))); (case aS => exact (below_size (by repeat (first | (with_reducible first | exact HB.out | apply below_alloc | apply pw_below_drewN | apply below_drew1) | exact HB.out)))); (case aL => have := LMc19.out; omega); intro v229 w43 ho hb hg hat; rw [← Ny228.out] at ho; have n0_ := Aside0.mk (hb); have n1_ := Aside0.mk (ho); clear HB; have HB := n0_; have HO230 := n1_; clear n0_ n1_; clear ho hb hg hat) | ((with_reducible refine gate_callee (f := 11) rfl ?_); refine goesL_ (some 37) rfl rfl Try.func11 (by kernel_rfl) rfl #[] rfl (by (try simp only [List.map_toArray, List.map_cons, List.map_nil]); first | done | rfl | (simp only [List.length_drop, List.length_take]; rfl)) ?_; (with_reducible refine (selfstablaw05_awake.calls kj12  true _ A20.out).mono ?_); rintro e w44 ⟨rfl, hb⟩; refine ⟨_, rfl, ?_⟩; have n0_ := Aside0.mk (Kd.R_below (by (with_reducible repeat (first | apply Kd.R_alloc | apply Kd.R_drewN | apply Kd.R_drew)); exact HO230.out) hb); have n1_ := Aside0.mk (below_step (by repeat (first | (with_reducible first | exact HB.out | apply below_alloc | apply pw_below_drewN | apply below_drew1) | exact HB.out)) hb); clear HO230; clear HB; have HO230 := n0_; have HB := n1_; clear n0_ n1_; (try clear hb); (try clear hb2); (try clear hk); (try clear hi); obtain ⟨Ao45, co45, eo45⟩ := Kd.R_slice HO230.out; subst eo45) | (go_at_call 24; (with_reducible refine (term_Valid.calls kj12 _ _ y228 6 true _ ?side1 ?side2 A22.out).mono ?_); (case side1 => repeat (first | exact (Kd.R_reads' HO230.out).2.2 | (with_reducible refine Kd.C_alloc ?_ _) | (with_reducible refine Kd.C_drewN ?_ _) | (with_reducible refine Kd.C_drew ?_))); (case side2 => exact (Kd.R_reads' HO230.out).2.1); rintro e w46 ⟨rfl, hb⟩; have n0_ := Aside0.mk (Kd.R_below (by (with_reducible repeat (first | apply Kd.R_alloc | apply Kd.R_drewN | apply Kd.R_drew)); exact HO230.out) hb); have n1_ := Aside0.mk (below_step (by repeat (first | (with_reducible first | exact HB.out | apply below_alloc | apply pw_below_drewN | apply below_drew1) | exact HB.out)) hb); clear HO230; clear HB; have HO230 := n0_; have HB := n1_; clear n0_ n1_; (try clear hb); (try clear hb2); (try clear hk); (try clear hi)) | (go_at_call 18; (with_reducible refine (term_Depth.calls kj12 _ _ y228 t233 _ ?side1 ?side2 A24.out).mono ?_); (case side1 => repeat (first | exact (Kd.R_reads' HO230.out).2.2 | (with_reducible refine Kd.C_alloc ?_ _) | (with_reducible refine Kd.C_drewN ?_ _) | (with_reducible refine Kd.C_drew ?_))); (case side2 => exact (Kd.R_reads' HO230.out).2.1); rintro e w47 ⟨rfl, hb⟩; have n0_ := Aside0.mk (Kd.R_below (by (with_reducible repeat (first | apply Kd.R_alloc | apply Kd.R_drewN | apply Kd.R_drew)); exact HO230.out) hb); have n1_ := Aside0.mk (below_step (by repeat (first | (with_reducible first | exact HB.out | apply below_alloc | apply pw_below_drewN | apply below_drew1) | exact HB.out)) hb); clear HO230; clear HB; have HO230 := n0_; have HB := n1_; clear n0_ n1_; (try clear hb); (try clear hb2); (try clear hk); (try clear hi)) | (go_at_call 18; (with_reducible refine (term_Depth.calls kj12 _ _ l0 t234 _ ?side1 ?side2 A25.out).mono ?_); (case side1 => repeat (first | exact (Kd.C_below HR0.out HB.out) | (with_reducible refine Kd.C_alloc ?_ _) | (with_reducible refine Kd.C_drewN ?_ _) | (with_reducible refine Kd.C_drew ?_))); (case side2 => exact HC0.out); rintro e w48 ⟨rfl, hb⟩; have n0_ := Aside0.mk (Kd.R_below (by (with_reducible repeat (first | apply Kd.R_alloc | apply Kd.R_drewN | apply Kd.R_drew)); exact HO230.out) hb); have n1_ := Aside0.mk (below_step (by repeat (first | (with_reducible first | exact HB.out | apply below_alloc | apply pw_below_drewN | apply below_drew1) | exact HB.out)) hb); clear HO230; clear HB; have HO230 := n0_; have HB := n1_; clear n0_ n1_; (try clear hb); (try clear hb2); (try clear hk); (try clear hi)) | (go_at_call 20; (with_reducible refine (term_Nest.calls kj12 _ _ y228 t235 _ ?side1 ?side2 A27.out).mono ?_); (case side1 => repeat (first | exact (Kd.R_reads' HO230.out).2.2 | (with_reducible refine Kd.C_alloc ?_ _) | (with_reducible refine Kd.C_drewN ?_ _) | (with_reducible refine Kd.C_drew ?_))); (case side2 => exact (Kd.R_reads' HO230.out).2.1); rintro e w49 ⟨rfl, hb⟩; have n0_ := Aside0.mk (Kd.R_below (by (with_reducible repeat (first | apply Kd.R_alloc | apply Kd.R_drewN | apply Kd.R_drew)); exact HO230.out) hb); have n1_ := Aside0.mk (below_step (by repeat (first | (with_reducible first | exact HB.out | apply below_alloc | apply pw_below_drewN | apply below_drew1) | exact HB.out)) hb); clear HO230; clear HB; have HO230 := n0_; have HB := n1_; clear n0_ n1_; (try clear hb); (try clear hb2); (try clear hk); (try clear hi)) | (go_at_call 20; (with_reducible refine (term_Nest.calls kj12 _ _ l0 t236 _ ?side1 ?side2 A28.out).mono ?_); (case side1 => repeat (first | exact (Kd.C_below HR0.out HB.out) | (with_reducible refine Kd.C_alloc ?_ _) | (with_reducible refine Kd.C_drewN ?_ _) | (with_reducible refine Kd.C_drew ?_))); (case side2 => exact HC0.out); rintro e w50 ⟨rfl, hb⟩; have n0_ := Aside0.mk (Kd.R_below (by (with_reducible repeat (first | apply Kd.R_alloc | apply Kd.R_drewN | apply Kd.R_drew)); exact HO230.out) hb); have n1_ := Aside0.mk (below_step (by repeat (first | (with_reducible first | exact HB.out | apply below_alloc | apply pw_below_drewN | apply below_drew1) | exact HB.out)) hb); clear HO230; clear HB; have HO230 := n0_; have HB := n1_; clear n0_ n1_; (try clear hb); (try clear hb2); (try clear hk); (try clear hi)) | (go_at_call 18; (with_reducible refine (term_Depth.calls kj12 _ _ y228 t233 _ ?side1 ?side2 A40.out).mono ?_); (case side1 => repeat (first | exact (Kd.R_reads' HO230.out).2.2 | (with_reducible refine Kd.C_alloc ?_ _) | (with_reducible refine Kd.C_drewN ?_ _) | (with_reducible refine Kd.C_drew ?_))); (case side2 => exact (Kd.R_reads' HO230.out).2.1); rintro e w51 ⟨rfl, hb⟩; have n0_ := Aside0.mk (Kd.R_below (by (with_reducible repeat (first | apply Kd.R_alloc | apply Kd.R_drewN | apply Kd.R_drew)); exact HO230.out) hb); have n1_ := Aside0.mk (below_step (by repeat (first | (with_reducible first | exact HB.out | apply below_alloc | apply pw_below_drewN | apply below_drew1) | exact HB.out)) hb); clear HO230; clear HB; have HO230 := n0_; have HB := n1_; clear n0_ n1_; (try clear hb); (try clear hb2); (try clear hk); (try clear hi)) | (go_at_call 18; (with_reducible refine (term_Depth.calls kj12 _ _ l0 t234 _ ?side1 ?side2 A41.out).mono ?_); (case side1 => repeat (first | exact (Kd.C_below HR0.out HB.out) | (with_reducible refine Kd.C_alloc ?_ _) | (with_reducible refine Kd.C_drewN ?_ _) | (with_reducible refine Kd.C_drew ?_))); (case side2 => exact HC0.out); rintro e w52 ⟨rfl, hb⟩; have n0_ := Aside0.mk (Kd.R_below (by (with_reducible repeat (first | apply Kd.R_alloc | apply Kd.R_drewN | apply Kd.R_drew)); exact HO230.out) hb); have n1_ := Aside0.mk (below_step (by repeat (first | (with_reducible first | exact HB.out | apply below_alloc | apply pw_below_drewN | apply below_drew1) | exact HB.out)) hb); clear HO230; clear HB; have HO230 := n0_; have HB := n1_; clear n0_ n1_; (try clear hb); (try clear hb2); (try clear hk); (try clear hi)))
                                go_ret
                                exact ⟨by first | rfl | (simp [errW_none, errW_some] <;> rfl) | (simp [*, errW_none, errW_some] <;> rfl), by repeat (first | (with_reducible first | exact HB.out | apply below_alloc | apply pw_below_drewN | apply below_drew1) | exact HB.out)⟩
                            · rw [if_neg c29] at H
                              have c29b0 : decide (t235 ≤ t236) = false := decide_eq_false c29
                              clear c29
                              obtain rfl := Option.some.inj H
                              have q53 : (t223 : Int) ≤ ((l0.length : Int) : Int) := of_decide_eq_true (by first | (with_reducible assumption) | assumption)
                              obtain ⟨i053, hi053, _, hsz53, _⟩ := info_parts info31
                              have hroom53 : l0.length ≤ c0 := HC0.out
                              have hC53 : Kd.C k31 _ A0 l0.length l0 := HR0.out
                              have ql53 : (t222 : Int) ≤ (t223 : Int) := of_decide_eq_true (by first | (with_reducible assumption) | assumption)
                              have q053 : (0 : Int) ≤ (t222 : Int) := of_decide_eq_true (by first | (with_reducible assumption) | assumption)
                              have hcut53 := cut_mid (P := Try.prog) 22 31 .i64 .i64 Try.underlying22 hi053 2 hsz53 A0 l0.length c0 t222 t223 q053 ql53 q53 hroom53
                              have hr53 := Kd.C_mid (lo := (t222 : Int).toNat) (hi := (t223 : Int).toNat) (c := c0) hC53 (by omega) (by omega) hroom53
                              obtain ⟨A53, hA53⟩ : ∃ A1, A1 = (if c0 = (t222 : Int).toNat then A0 else (A0 : Option Addr).map (·.add ((t222 : Int).toNat * 2))) := ⟨_, rfl⟩
                              obtain ⟨c53, hc53⟩ : ∃ c1, c1 = c0 - (t222 : Int).toNat := ⟨_, rfl⟩
                              have hy53 : y224.length = (t223 : Int).toNat - (t222 : Int).toNat := (by rw [Ny224.out, List.length_drop, List.length_take] <;> omega)
                              rw [show ((l0).take (t223 : Int).toNat).drop (t222 : Int).toNat = y224 from Ny224.out.symm] at hr53
                              replace hr53 : Kd.C k31 _ A53 y224.length y224 := (by rw [hA53]; exact hr53)
                              rw [← hy53, ← hA53, ← hc53] at hcut53
                              have HR227 := Aside0.mk hr53
                              have HC227 := Aside0.mk (show y224.length ≤ c53 from by rw [hy53, hc53]; exact Nat.sub_le_sub_right (Nat.le_trans (by omega) hroom53) _)
                              clear hr53 hC53 hroom53 hi053 hsz53 hc53
                              have KY53 := Aside0.mk hy53
                              have KA53 := Aside0.mk hA53
                              clear hy53 hA53
                              replace q53 := eq_true q53
                              go_wp2_with (first | ((with_reducible refine gate_builtin (b := .append) (xs := #[.const (.slice none 0 0), .tmp 35]) rfl ?_); (try (refine gate_guard (by rfl) ?_; dsimp only)); at_builtin; refine Kd.R_append_rows k31 (w0 := w) w.heap.size rfl (.const (.slice none 0 0)) (.tmp 35) 22 31 (.agg #[(.int .i64 0), (.int .i64 0)]) 16 rfl Try.underlying22 info31 rfl (by decide) (by omega) (.slice none 0 0) ([] : List (S31)) y224 _ _ _ (fun _ => True) (fun _ => False) rfl rfl ?aO ?aR (fun _ _ h => h) (fun _ h => h.elim) ?aF ?aB ?aS ?aL ?_; (case aR => (try change Kd.C k31 _ _ _ _); repeat (first | exact (Kd.C_below HR227.out HB.out) | (with_reducible refine Kd.C_alloc ?_ _) | (with_reducible refine Kd.C_drewN ?_ _) | (with_reducible refine Kd.C_drew ?_))); (case aB => exact (by repeat (first | (with_reducible first | exact HB.out | apply below_alloc | apply pw_below_drewN | apply below_drew1) | exact HB.out))); (case aF => exact (fun _ _ => trivial)); (case aO => exact ((Kd.R_nil _ _ _ _ (fun _ => True)))); (case aS => exact (below_size (by repeat (first | (with_reducible first | exact HB.out | apply below_alloc | apply pw_below_drewN | apply below_drew1) | exact HB.out)))); (case aL => have := LMc19.out; omega); intro v229 w54 ho hb hg hat; rw [← Ny228.out] at ho; have n0_ := Aside0.mk (hb); have n1_ := Aside0.mk (ho); clear HB; have HB := n0_; have HO230 := n1_; clear n0_ n1_; clear ho hb hg hat) | ((with_reducible refine gate_callee (f := 11) rfl ?_); refine goesL_ (some 37) rfl rfl Try.func11 (by kernel_rfl) rfl #[] rfl (by (try simp only [List.map_toArray, List.map_cons, List.map_nil]); first | done | rfl | (simp only [List.length_drop, List.length_take]; rfl)) ?_; (with_reducible refine (selfstablaw05_awake.calls kj12  true _ A20.out).mono ?_); rintro e w55 ⟨rfl, hb⟩; refine ⟨_, rfl, ?_⟩; have n0_ := Aside0.mk (Kd.R_below (by (with_reducible repeat (first | apply Kd.R_alloc | apply Kd.R_drewN | apply Kd.R_drew)); exact HO230.out) hb); have n1_ := Aside0.mk (below_step (by repeat (first | (with_reducible first | exact HB.out | apply below_alloc | apply pw_below_drewN | apply below_drew1) | exact HB.out)) hb); clear HO230; clear HB; have HO230 := n0_; have HB := n1_; clear n0_ n1_; (try clear hb); (try clear hb2); (try clear hk); (try clear hi); obtain ⟨Ao56, co56, eo56⟩ := Kd.R_slice HO230.out; subst eo56) | (go_at_call 24; (with_reducible refine (term_Valid.calls kj12 _ _ y228 6 true _ ?side1 ?side2 A22.out).mono ?_); (case side1 => repeat (first | exact (Kd.R_reads' HO230.out).2.2 | (with_reducible refine Kd.C_alloc ?_ _) | (with_reducible refine Kd.C_drewN ?_ _) | (with_reducible refine Kd.C_drew ?_))); (case side2 => exact (Kd.R_reads' HO230.out).2.1); rintro e w57 ⟨rfl, hb⟩; have n0_ := Aside0.mk (Kd.R_below (by (with_reducible repeat (first | apply Kd.R_alloc | apply Kd.R_drewN | apply Kd.R_drew)); exact HO230.out) hb); have n1_ := Aside0.mk (below_step (by repeat (first | (with_reducible first | exact HB.out | apply below_alloc | apply pw_below_drewN | apply below_drew1) | exact HB.out)) hb); clear HO230; clear HB; have HO230 := n0_; have HB := n1_; clear n0_ n1_; (try clear hb); (try clear hb2); (try clear hk); (try clear hi)) | (go_at_call 18; (with_reducible refine (term_Depth.calls kj12 _ _ y228 t233 _ ?side1 ?side2 A24.out).mono ?_); (case side1 => repeat (first | exact (Kd.R_reads' HO230.out).2.2 | (with_reducible refine Kd.C_alloc ?_ _) | (with_reducible refine Kd.C_drewN ?_ _) | (with_reducible refine Kd.C_drew ?_))); (case side2 => exact (Kd.R_reads' HO230.out).2.1); rintro e w58 ⟨rfl, hb⟩; have n0_ := Aside0.mk (Kd.R_below (by (with_reducible repeat (first | apply Kd.R_alloc | apply Kd.R_drewN | apply Kd.R_drew)); exact HO230.out) hb); have n1_ := Aside0.mk (below_step (by repeat (first | (with_reducible first | exact HB.out | apply below_alloc | apply pw_below_drewN | apply below_drew1) | exact HB.out)) hb); clear HO230; clear HB; have HO230 := n0_; have HB := n1_; clear n0_ n1_; (try clear hb); (try clear hb2); (try clear hk); (try clear hi)) | (go_at_call 18; (with_reducible refine (term_Depth.calls kj12 _ _ l0 t234 _ ?side1 ?side2 A25.out).mono ?_); (case side1 => repeat (first | exact (Kd.C_below HR0.out HB.out) | (with_reducible refine Kd.C_alloc ?_ _) | (with_reducible refine Kd.C_drewN ?_ _) | (with_reducible refine Kd.C_drew ?_))); (case side2 => exact HC0.out); rintro e w59 ⟨rfl, hb⟩; have n0_ := Aside0.mk (Kd.R_below (by (with_reducible repeat (first | apply Kd.R_alloc | apply Kd.R_drewN | apply Kd.R_drew)); exact HO230.out) hb); have n1_ := Aside0.mk (below_step (by repeat (first | (with_reducible first | exact HB.out | apply below_alloc | apply pw_below_drewN | apply below_drew1) | exact HB.out)) hb); clear HO230; clear HB; have HO230 := n0_; have HB := n1_; clear n0_ n1_; (try clear hb); (try clear hb2); (try clear hk); (try clear hi)) | (go_at_call 20; (with_reducible refine (term_Nest.calls kj12 _ _ y228 t235 _ ?side1 ?side2 A27.out).mono ?_); (case side1 => repeat (first | exact (Kd.R_reads' HO230.out).2.2 | (with_reducible refine Kd.C_alloc ?_ _) | (with_reducible refine Kd.C_drewN ?_ _) | (with_reducible refine Kd.C_drew ?_))); (case side2 => exact (Kd.R_reads' HO230.out).2.1); rintro e w60 ⟨rfl, hb⟩; have n0_ := Aside0.mk (Kd.R_below (by (with_reducible repeat (first | apply Kd.R_alloc | apply Kd.R_drewN | apply Kd.R_drew)); exact HO230.out) hb); have n1_ := Aside0.mk (below_step (by repeat (first | (with_reducible first | exact HB.out | apply below_alloc | apply pw_below_drewN | apply below_drew1) | exact HB.out)) hb); clear HO230; clear HB; have HO230 := n0_; have HB := n1_; clear n0_ n1_; (try clear hb); (try clear hb2); (try clear hk); (try clear hi)) | (go_at_call 20; (with_reducible refine (term_Nest.calls kj12 _ _ l0 t236 _ ?side1 ?side2 A28.out).mono ?_); (case side1 => repeat (first | exact (Kd.C_below HR0.out HB.out) | (with_reducible refine Kd.C_alloc ?_ _) | (with_reducible refine Kd.C_drewN ?_ _) | (with_reducible refine Kd.C_drew ?_))); (case side2 => exact HC0.out); rintro e w61 ⟨rfl, hb⟩; have n0_ := Aside0.mk (Kd.R_below (by (with_reducible repeat (first | apply Kd.R_alloc | apply Kd.R_drewN | apply Kd.R_drew)); exact HO230.out) hb); have n1_ := Aside0.mk (below_step (by repeat (first | (with_reducible first | exact HB.out | apply below_alloc | apply pw_below_drewN | apply below_drew1) | exact HB.out)) hb); clear HO230; clear HB; have HO230 := n0_; have HB := n1_; clear n0_ n1_; (try clear hb); (try clear hb2); (try clear hk); (try clear hi)))
                              go_ret
                              exact ⟨by first | rfl | (simp [errW_none, errW_some] <;> rfl) | (simp [*, errW_none, errW_some] <;> rfl), by repeat (first | (with_reducible first | exact HB.out | apply below_alloc | apply pw_below_drewN | apply below_drew1) | exact HB.out)⟩
                          · rw [if_neg c26] at H
                            have c26b0 : decide (t233 ≤ t234) = false := decide_eq_false c26
                            clear c26
                            obtain rfl := Option.some.inj H
                            have q62 : (t223 : Int) ≤ ((l0.length : Int) : Int) := of_decide_eq_true (by first | (with_reducible assumption) | assumption)
                            obtain ⟨i062, hi062, _, hsz62, _⟩ := info_parts info31
                            have hroom62 : l0.length ≤ c0 := HC0.out
                            have hC62 : Kd.C k31 _ A0 l0.length l0 := HR0.out
                            have ql62 : (t222 : Int) ≤ (t223 : Int) := of_decide_eq_true (by first | (with_reducible assumption) | assumption)
                            have q062 : (0 : Int) ≤ (t222 : Int) := of_decide_eq_true (by first | (with_reducible assumption) | assumption)
                            have hcut62 := cut_mid (P := Try.prog) 22 31 .i64 .i64 Try.underlying22 hi062 2 hsz62 A0 l0.length c0 t222 t223 q062 ql62 q62 hroom62
                            have hr62 := Kd.C_mid (lo := (t222 : Int).toNat) (hi := (t223 : Int).toNat) (c := c0) hC62 (by omega) (by omega) hroom62
                            obtain ⟨A62, hA62⟩ : ∃ A1, A1 = (if c0 = (t222 : Int).toNat then A0 else (A0 : Option Addr).map (·.add ((t222 : Int).toNat * 2))) := ⟨_, rfl⟩
                            obtain ⟨c62, hc62⟩ : ∃ c1, c1 = c0 - (t222 : Int).toNat := ⟨_, rfl⟩
                            have hy62 : y224.length = (t223 : Int).toNat - (t222 : Int).toNat := (by rw [Ny224.out, List.length_drop, List.length_take] <;> omega)
                            rw [show ((l0).take (t223 : Int).toNat).drop (t222 : Int).toNat = y224 from Ny224.out.symm] at hr62
                            replace hr62 : Kd.C k31 _ A62 y224.length y224 := (by rw [hA62]; exact hr62)
                            rw [← hy62, ← hA62, ← hc62] at hcut62
                            have HR227 := Aside0.mk hr62
                            have HC227 := Aside0.mk (show y224.length ≤ c62 from by rw [hy62, hc62]; exact Nat.sub_le_sub_right (Nat.le_trans (by omega) hroom62) _)
                            clear hr62 hC62 hroom62 hi062 hsz62 hc62
                            have KY62 := Aside0.mk hy62
                            have KA62 := Aside0.mk hA62
                            clear hy62 hA62
                            replace q62 := eq_true q62
                            go_wp2_with (first | ((with_reducible refine gate_builtin (b := .append) (xs := #[.const (.slice none 0 0), .tmp 35]) rfl ?_); (try (refine gate_guard (by rfl) ?_; dsimp only)); at_builtin; refine Kd.R_append_rows k31 (w0 := w) w.heap.size rfl (.const (.slice none 0 0)) (.tmp 35) 22 31 (.agg #[(.int .i64 0), (.int .i64 0)]) 16 rfl Try.underlying22 info31 rfl (by decide) (by omega) (.slice none 0 0) ([] : List (S31)) y224 _ _ _ (fun _ => True) (fun _ => False) rfl rfl ?aO ?aR (fun _ _ h => h) (fun _ h => h.elim) ?aF ?aB ?aS ?aL ?_; (case aR => (try change Kd.C k31 _ _ _ _); repeat (first | exact (Kd.C_below HR227.out HB.out) | (with_reducible refine Kd.C_alloc ?_ _) | (with_reducible refine Kd.C_drewN ?_ _) | (with_reducible refine Kd.C_drew ?_))); (case aB => exact (by repeat (first | (with_reducible first | exact HB.out | apply below_alloc | apply pw_below_drewN | apply below_drew1) | exact HB.out))); (case aF => exact (fun _ _ => trivial)); (case aO => exact ((Kd.R_nil _ _ _ _ (fun _ => True)))); (case aS => exact (below_size (by repeat (first | (with_reducible first | exact HB.out | apply below_alloc | apply pw_below_drewN | apply below_drew1) | exact HB.out)))); (case aL => have := LMc19.out; omega); intro v229 w63 ho hb hg hat; rw [← Ny228.out] at ho; have n0_ := Aside0.mk (hb); have n1_ := Aside0.mk (ho); clear HB; have HB := n0_; have HO230 := n1_; clear n0_ n1_; clear ho hb hg hat) | ((with_reducible refine gate_callee (f := 11) rfl ?_); refine goesL_ (some 37) rfl rfl Try.func11 (by kernel_rfl) rfl #[] rfl (by (try simp only [List.map_toArray, List.map_cons, List.map_nil]); first | done | rfl | (simp only [List.length_drop, List.length_take]; rfl)) ?_; (with_reducible refine (selfstablaw05_awake.calls kj12  true _ A20.out).mono ?_); rintro e w64 ⟨rfl, hb⟩; refine ⟨_, rfl, ?_⟩; have n0_ := Aside0.mk (Kd.R_below (by (with_reducible repeat (first | apply Kd.R_alloc | apply Kd.R_drewN | apply Kd.R_drew)); exact HO230.out) hb); have n1_ := Aside0.mk (below_step (by repeat (first | (with_reducible first | exact HB.out | apply below_alloc | apply pw_below_drewN | apply below_drew1) | exact HB.out)) hb); clear HO230; clear HB; have HO230 := n0_; have HB := n1_; clear n0_ n1_; (try clear hb); (try clear hb2); (try clear hk); (try clear hi); obtain ⟨Ao65, co65, eo65⟩ := Kd.R_slice HO230.out; subst eo65) | (go_at_call 24; (with_reducible refine (term_Valid.calls kj12 _ _ y228 6 true _ ?side1 ?side2 A22.out).mono ?_); (case side1 => repeat (first | exact (Kd.R_reads' HO230.out).2.2 | (with_reducible refine Kd.C_alloc ?_ _) | (with_reducible refine Kd.C_drewN ?_ _) | (with_reducible refine Kd.C_drew ?_))); (case side2 => exact (Kd.R_reads' HO230.out).2.1); rintro e w66 ⟨rfl, hb⟩; have n0_ := Aside0.mk (Kd.R_below (by (with_reducible repeat (first | apply Kd.R_alloc | apply Kd.R_drewN | apply Kd.R_drew)); exact HO230.out) hb); have n1_ := Aside0.mk (below_step (by repeat (first | (with_reducible first | exact HB.out | apply below_alloc | apply pw_below_drewN | apply below_drew1) | exact HB.out)) hb); clear HO230; clear HB; have HO230 := n0_; have HB := n1_; clear n0_ n1_; (try clear hb); (try clear hb2); (try clear hk); (try clear hi)) | (go_at_call 18; (with_reducible refine (term_Depth.calls kj12 _ _ y228 t233 _ ?side1 ?side2 A24.out).mono ?_); (case side1 => repeat (first | exact (Kd.R_reads' HO230.out).2.2 | (with_reducible refine Kd.C_alloc ?_ _) | (with_reducible refine Kd.C_drewN ?_ _) | (with_reducible refine Kd.C_drew ?_))); (case side2 => exact (Kd.R_reads' HO230.out).2.1); rintro e w67 ⟨rfl, hb⟩; have n0_ := Aside0.mk (Kd.R_below (by (with_reducible repeat (first | apply Kd.R_alloc | apply Kd.R_drewN | apply Kd.R_drew)); exact HO230.out) hb); have n1_ := Aside0.mk (below_step (by repeat (first | (with_reducible first | exact HB.out | apply below_alloc | apply pw_below_drewN | apply below_drew1) | exact HB.out)) hb); clear HO230; clear HB; have HO230 := n0_; have HB := n1_; clear n0_ n1_; (try clear hb); (try clear hb2); (try clear hk); (try clear hi)) | (go_at_call 18; (with_reducible refine (term_Depth.calls kj12 _ _ l0 t234 _ ?side1 ?side2 A25.out).mono ?_); (case side1 => repeat (first | exact (Kd.C_below HR0.out HB.out) | (with_reducible refine Kd.C_alloc ?_ _) | (with_reducible refine Kd.C_drewN ?_ _) | (with_reducible refine Kd.C_drew ?_))); (case side2 => exact HC0.out); rintro e w68 ⟨rfl, hb⟩; have n0_ := Aside0.mk (Kd.R_below (by (with_reducible repeat (first | apply Kd.R_alloc | apply Kd.R_drewN | apply Kd.R_drew)); exact HO230.out) hb); have n1_ := Aside0.mk (below_step (by repeat (first | (with_reducible first | exact HB.out | apply below_alloc | apply pw_below_drewN | apply below_drew1) | exact HB.out)) hb); clear HO230; clear HB; have HO230 := n0_; have HB := n1_; clear n0_ n1_; (try clear hb); (try clear hb2); (try clear hk); (try clear hi)))
                            go_ret
                            exact ⟨by first | rfl | (simp [errW_none, errW_some] <;> rfl) | (simp [*, errW_none, errW_some] <;> rfl), by repeat (first | (with_reducible first | exact HB.out | apply below_alloc | apply pw_below_drewN | apply below_drew1) | exact HB.out)⟩
                        · replace c23 := Bool.eq_false_iff.mpr c23
                          subst c23
                          have H1 : (some false) = some r := by rw [if_neg (show ¬ (false = true) by decide)] at H; exact H
                          clear H
                          have H := H1
                          clear H1
                          obtain rfl := Option.some.inj H
                          have q69 : (t223 : Int) ≤ ((l0.length : Int) : Int) := of_decide_eq_true (by first | (with_reducible assumption) | assumption)
                          obtain ⟨i069, hi069, _, hsz69, _⟩ := info_parts info31
                          have hroom69 : l0.length ≤ c0 := HC0.out
                          have hC69 : Kd.C k31 _ A0 l0.length l0 := HR0.out
                          have ql69 : (t222 : Int) ≤ (t223 : Int) := of_decide_eq_true (by first | (with_reducible assumption) | assumption)
                          have q069 : (0 : Int) ≤ (t222 : Int) := of_decide_eq_true (by first | (with_reducible assumption) | assumption)
                          have hcut69 := cut_mid (P := Try.prog) 22 31 .i64 .i64 Try.underlying22 hi069 2 hsz69 A0 l0.length c0 t222 t223 q069 ql69 q69 hroom69
                          have hr69 := Kd.C_mid (lo := (t222 : Int).toNat) (hi := (t223 : Int).toNat) (c := c0) hC69 (by omega) (by omega) hroom69
                          obtain ⟨A69, hA69⟩ : ∃ A1, A1 = (if c0 = (t222 : Int).toNat then A0 else (A0 : Option Addr).map (·.add ((t222 : Int).toNat * 2))) := ⟨_, rfl⟩
                          obtain ⟨c69, hc69⟩ : ∃ c1, c1 = c0 - (t222 : Int).toNat := ⟨_, rfl⟩
                          have hy69 : y224.length = (t223 : Int).toNat - (t222 : Int).toNat := (by rw [Ny224.out, List.length_drop, List.length_take] <;> omega)
                          rw [show ((l0).take (t223 : Int).toNat).drop (t222 : Int).toNat = y224 from Ny224.out.symm] at hr69
                          replace hr69 : Kd.C k31 _ A69 y224.length y224 := (by rw [hA69]; exact hr69)
                          rw [← hy69, ← hA69, ← hc69] at hcut69
                          have HR227 := Aside0.mk hr69
                          have HC227 := Aside0.mk (show y224.length ≤ c69 from by rw [hy69, hc69]; exact Nat.sub_le_sub_right (Nat.le_trans (by omega) hroom69) _)
                          clear hr69 hC69 hroom69 hi069 hsz69 hc69
                          have KY69 := Aside0.mk hy69
                          have KA69 := Aside0.mk hA69
                          clear hy69 hA69
                          replace q69 := eq_true q69
                          go_wp2_with (first | ((with_reducible refine gate_builtin (b := .append) (xs := #[.const (.slice none 0 0), .tmp 35]) rfl ?_); (try (refine gate_guard (by rfl) ?_; dsimp only)); at_builtin; refine Kd.R_append_rows k31 (w0 := w) w.heap.size rfl (.const (.slice none 0 0)) (.tmp 35) 22 31 (.agg #[(.int .i64 0), (.int .i64 0)]) 16 rfl Try.underlying22 info31 rfl (by decide) (by omega) (.slice none 0 0) ([] : List (S31)) y224 _ _ _ (fun _ => True) (fun _ => False) rfl rfl ?aO ?aR (fun _ _ h => h) (fun _ h => h.elim) ?aF ?aB ?aS ?aL ?_; (case aR => (try change Kd.C k31 _ _ _ _); repeat (first | exact (Kd.C_below HR227.out HB.out) | (with_reducible refine Kd.C_alloc ?_ _) | (with_reducible refine Kd.C_drewN ?_ _) | (with_reducible refine Kd.C_drew ?_))); (case aB => exact (by repeat (first | (with_reducible first | exact HB.out | apply below_alloc | apply pw_below_drewN | apply below_drew1) | exact HB.out))); (case aF => exact (fun _ _ => trivial)); (case aO => exact ((Kd.R_nil _ _ _ _ (fun _ => True)))); (case aS => exact (below_size (by repeat (first | (with_reducible first | exact HB.out | apply below_alloc | apply pw_below_drewN | apply below_drew1) | exact HB.out)))); (case aL => have := LMc19.out; omega); intro v229 w70 ho hb hg hat; rw [← Ny228.out] at ho; have n0_ := Aside0.mk (hb); have n1_ := Aside0.mk (ho); clear HB; have HB := n0_; have HO230 := n1_; clear n0_ n1_; clear ho hb hg hat) | ((with_reducible refine gate_callee (f := 11) rfl ?_); refine goesL_ (some 37) rfl rfl Try.func11 (by kernel_rfl) rfl #[] rfl (by (try simp only [List.map_toArray, List.map_cons, List.map_nil]); first | done | rfl | (simp only [List.length_drop, List.length_take]; rfl)) ?_; (with_reducible refine (selfstablaw05_awake.calls kj12  true _ A20.out).mono ?_); rintro e w71 ⟨rfl, hb⟩; refine ⟨_, rfl, ?_⟩; have n0_ := Aside0.mk (Kd.R_below (by (with_reducible repeat (first | apply Kd.R_alloc | apply Kd.R_drewN | apply Kd.R_drew)); exact HO230.out) hb); have n1_ := Aside0.mk (below_step (by repeat (first | (with_reducible first | exact HB.out | apply below_alloc | apply pw_below_drewN | apply below_drew1) | exact HB.out)) hb); clear HO230; clear HB; have HO230 := n0_; have HB := n1_; clear n0_ n1_; (try clear hb); (try clear hb2); (try clear hk); (try clear hi); obtain ⟨Ao72, co72, eo72⟩ := Kd.R_slice HO230.out; subst eo72) | (go_at_call 24; (with_reducible refine (term_Valid.calls kj12 _ _ y228 6 false _ ?side1 ?side2 A22.out).mono ?_); (case side1 => repeat (first | exact (Kd.R_reads' HO230.out).2.2 | (with_reducible refine Kd.C_alloc ?_ _) | (with_reducible refine Kd.C_drewN ?_ _) | (with_reducible refine Kd.C_drew ?_))); (case side2 => exact (Kd.R_reads' HO230.out).2.1); rintro e w73 ⟨rfl, hb⟩; have n0_ := Aside0.mk (Kd.R_below (by (with_reducible repeat (first | apply Kd.R_alloc | apply Kd.R_drewN | apply Kd.R_drew)); exact HO230.out) hb); have n1_ := Aside0.mk (below_step (by repeat (first | (with_reducible first | exact HB.out | apply below_alloc | apply pw_below_drewN | apply below_drew1) | exact HB.out)) hb); clear HO230; clear HB; have HO230 := n0_; have HB := n1_; clear n0_ n1_; (try clear hb); (try clear hb2); (try clear hk); (try clear hi)))
                          go_ret
                          exact ⟨by first | rfl | (simp [errW_none, errW_some] <;> rfl) | (simp [*, errW_none, errW_some] <;> rfl), by repeat (first | (with_reducible first | exact HB.out | apply below_alloc | apply pw_below_drewN | apply below_drew1) | exact HB.out)⟩
                      · replace c21 := Bool.eq_false_iff.mpr c21
                        subst c21
                        have H1 : (some false) = some r := by rw [if_neg (show ¬ (false = true) by decide)] at H; exact H
                        clear H
                        have H := H1
                        clear H1
                        obtain rfl := Option.some.inj H
                        have q74 : (t223 : Int) ≤ ((l0.length : Int) : Int) := of_decide_eq_true (by first | (with_reducible assumption) | assumption)
                        obtain ⟨i074, hi074, _, hsz74, _⟩ := info_parts info31
                        have hroom74 : l0.length ≤ c0 := HC0.out
                        have hC74 : Kd.C k31 _ A0 l0.length l0 := HR0.out
                        have ql74 : (t222 : Int) ≤ (t223 : Int) := of_decide_eq_true (by first | (with_reducible assumption) | assumption)
                        have q074 : (0 : Int) ≤ (t222 : Int) := of_decide_eq_true (by first | (with_reducible assumption) | assumption)
                        have hcut74 := cut_mid (P := Try.prog) 22 31 .i64 .i64 Try.underlying22 hi074 2 hsz74 A0 l0.length c0 t222 t223 q074 ql74 q74 hroom74
                        have hr74 := Kd.C_mid (lo := (t222 : Int).toNat) (hi := (t223 : Int).toNat) (c := c0) hC74 (by omega) (by omega) hroom74
                        obtain ⟨A74, hA74⟩ : ∃ A1, A1 = (if c0 = (t222 : Int).toNat then A0 else (A0 : Option Addr).map (·.add ((t222 : Int).toNat * 2))) := ⟨_, rfl⟩
                        obtain ⟨c74, hc74⟩ : ∃ c1, c1 = c0 - (t222 : Int).toNat := ⟨_, rfl⟩
                        have hy74 : y224.length = (t223 : Int).toNat - (t222 : Int).toNat := (by rw [Ny224.out, List.length_drop, List.length_take] <;> omega)
                        rw [show ((l0).take (t223 : Int).toNat).drop (t222 : Int).toNat = y224 from Ny224.out.symm] at hr74
                        replace hr74 : Kd.C k31 _ A74 y224.length y224 := (by rw [hA74]; exact hr74)
                        rw [← hy74, ← hA74, ← hc74] at hcut74
                        have HR227 := Aside0.mk hr74
                        have HC227 := Aside0.mk (show y224.length ≤ c74 from by rw [hy74, hc74]; exact Nat.sub_le_sub_right (Nat.le_trans (by omega) hroom74) _)
                        clear hr74 hC74 hroom74 hi074 hsz74 hc74
                        have KY74 := Aside0.mk hy74
                        have KA74 := Aside0.mk hA74
                        clear hy74 hA74
                        replace q74 := eq_true q74
                        go_wp2_with (first | ((with_reducible refine gate_builtin (b := .append) (xs := #[.const (.slice none 0 0), .tmp 35]) rfl ?_); (try (refine gate_guard (by rfl) ?_; dsimp only)); at_builtin; refine Kd.R_append_rows k31 (w0 := w) w.heap.size rfl (.const (.slice none 0 0)) (.tmp 35) 22 31 (.agg #[(.int .i64 0), (.int .i64 0)]) 16 rfl Try.underlying22 info31 rfl (by decide) (by omega) (.slice none 0 0) ([] : List (S31)) y224 _ _ _ (fun _ => True) (fun _ => False) rfl rfl ?aO ?aR (fun _ _ h => h) (fun _ h => h.elim) ?aF ?aB ?aS ?aL ?_; (case aR => (try change Kd.C k31 _ _ _ _); repeat (first | exact (Kd.C_below HR227.out HB.out) | (with_reducible refine Kd.C_alloc ?_ _) | (with_reducible refine Kd.C_drewN ?_ _) | (with_reducible refine Kd.C_drew ?_))); (case aB => exact (by repeat (first | (with_reducible first | exact HB.out | apply below_alloc | apply pw_below_drewN | apply below_drew1) | exact HB.out))); (case aF => exact (fun _ _ => trivial)); (case aO => exact ((Kd.R_nil _ _ _ _ (fun _ => True)))); (case aS => exact (below_size (by repeat (first | (with_reducible first | exact HB.out | apply below_alloc | apply pw_below_drewN | apply below_drew1) | exact HB.out)))); (case aL => have := LMc19.out; omega); intro v229 w75 ho hb hg hat; rw [← Ny228.out] at ho; have n0_ := Aside0.mk (hb); have n1_ := Aside0.mk (ho); clear HB; have HB := n0_; have HO230 := n1_; clear n0_ n1_; clear ho hb hg hat) | ((with_reducible refine gate_callee (f := 11) rfl ?_); refine goesL_ (some 37) rfl rfl Try.func11 (by kernel_rfl) rfl #[] rfl (by (try simp only [List.map_toArray, List.map_cons, List.map_nil]); first | done | rfl | (simp only [List.length_drop, List.length_take]; rfl)) ?_; (with_reducible refine (selfstablaw05_awake.calls kj12  false _ A20.out).mono ?_); rintro e w76 ⟨rfl, hb⟩; refine ⟨_, rfl, ?_⟩; have n0_ := Aside0.mk (Kd.R_below (by (with_reducible repeat (first | apply Kd.R_alloc | apply Kd.R_drewN | apply Kd.R_drew)); exact HO230.out) hb); have n1_ := Aside0.mk (below_step (by repeat (first | (with_reducible first | exact HB.out | apply below_alloc | apply pw_below_drewN | apply below_drew1) | exact HB.out)) hb); clear HO230; clear HB; have HO230 := n0_; have HB := n1_; clear n0_ n1_; (try clear hb); (try clear hb2); (try clear hk); (try clear hi)))
                        go_ret
                        exact ⟨by first | rfl | (simp [errW_none, errW_some] <;> rfl) | (simp [*, errW_none, errW_some] <;> rfl), by repeat (first | (with_reducible first | exact HB.out | apply below_alloc | apply pw_below_drewN | apply below_drew1) | exact HB.out)⟩
                    · rw [if_neg c19] at H
                      exact absurd H (by simp)
                  · rw [if_neg c18] at H
                    exact absurd H (by simp)
                · rw [if_neg c17] at H
                  exact absurd H (by simp)
              · rw [if_neg c16] at H
                exact absurd H (by simp)

end Go.Proofs.Ytbjigmgiecgolaa.P
