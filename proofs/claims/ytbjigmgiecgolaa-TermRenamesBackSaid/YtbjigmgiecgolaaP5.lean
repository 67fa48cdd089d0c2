-- made by a program of mine (wip/tools/pp.py over the kit's print)
import Derived.Test.YtbjigmgiecgolaaP0
import Derived.Test.YtbjigmgiecgolaaP4
namespace Go.Proofs.Ytbjigmgiecgolaa.P
open Go.RowKit Go.Proofs.YtbjigmgiecgolaaW.PrintWords Go.Proofs.YtbjigmgiecgolaaW.PrintLast Go.Proofs.YtbjigmgiecgolaaW.PrintMore
attribute [local go_sem] max2_int min2_int max_two min_two max_three min_three max_four min_four   -- for this text's walks alone
set_option linter.unusedVariables false
set_option linter.unusedSimpArgs false

/-! ### selfstabref05_End: function 15 -/
mutual
def selfstabref05_End.j0 : Nat → List (S31) → Int → Bool → Option (Int)
  | 0, _, _, _ => none
  | k + 1, x0, x1, x15 => if x15 = true then (some (-1)) else (selfstabref05_End.l0 k x0 1 x1)
def selfstabref05_End.l0 : Nat → List (S31) → Int → Int → Option (Int)
  | 0, _, _, _ => none
  | k + 1, x0, x5, x6 => if x6 < (x0.length : Int) then (if 0 ≤ x6 then ((selfstabref05_Arity.f k ((rd_T31 x0 x6).f0)).bind fun t156 => (if t156 < 0 then (some (-1)) else (if (wrap64 (x5 + (wrap64 (t156 - 1)))) = 0 then (some (wrap64 (x6 + 1))) else (selfstabref05_End.l0 k x0 (wrap64 (x5 + (wrap64 (t156 - 1)))) (wrap64 (x6 + 1)))))) else (none)) else (some (-1))
end
def selfstabref05_End.f (k : Nat) (l0 : List (S31)) (a1 : Int) : Option (Int) := if a1 < 0 then (selfstabref05_End.j0 k l0 a1 true) else (selfstabref05_End.j0 k l0 a1 (decide (a1 ≥ (l0.length : Int))))
theorem selfstabref05_End.mono_l : ∀ k, (∀ y0 y1 y2, LeO (selfstabref05_End.j0 k y0 y1 y2) (selfstabref05_End.j0 (k + 1) y0 y1 y2)) ∧ (∀ y0 y1 y2, LeO (selfstabref05_End.l0 k y0 y1 y2) (selfstabref05_End.l0 (k + 1) y0 y1 y2))
  | 0 => ⟨fun _ _ _ r h => by simp [selfstabref05_End.j0] at h, fun _ _ _ r h => by simp [selfstabref05_End.l0] at h⟩
  | k + 1 => by
    obtain ⟨ih0, ih1⟩ := selfstabref05_End.mono_l k
    refine ⟨?_, ?_⟩
    · intro y0 y1 y2
      unfold selfstabref05_End.j0
      repeat' first
      | (with_reducible exact ih0 _ _ _)
      | (with_reducible exact ih1 _ _ _)
      | (with_reducible exact selfstabref05_Arity.mono _ _)
      | (with_reducible exact LeO.refl _)
      | (with_reducible exact LeO.none _)
      | (with_reducible refine LeO.ite ?_ ?_)
      | (with_reducible refine LeO.bind ?_ (fun _ => ?_))
      | exact ih0 _ _ _
      | exact ih1 _ _ _
      | exact selfstabref05_Arity.mono _ _
      | exact LeO.none _
      | refine LeO.ite ?_ ?_
      | refine LeO.bind ?_ (fun _ => ?_)
    · intro y0 y1 y2
      unfold selfstabref05_End.l0
      repeat' first
      | (with_reducible exact ih0 _ _ _)
      | (with_reducible exact ih1 _ _ _)
      | (with_reducible exact selfstabref05_Arity.mono _ _)
      | (with_reducible exact LeO.refl _)
      | (with_reducible exact LeO.none _)
      | (with_reducible refine LeO.ite ?_ ?_)
      | (with_reducible refine LeO.bind ?_ (fun _ => ?_))
      | exact ih0 _ _ _
      | exact ih1 _ _ _
      | exact selfstabref05_Arity.mono _ _
      | exact LeO.none _
      | refine LeO.ite ?_ ?_
      | refine LeO.bind ?_ (fun _ => ?_)
theorem selfstabref05_End.mono : ∀ a0 a1 k, LeO (selfstabref05_End.f k a0 a1) (selfstabref05_End.f (k + 1) a0 a1) := by
  intro a0 a1 k
  obtain ⟨ih0, ih1⟩ := selfstabref05_End.mono_l k
  unfold selfstabref05_End.f
  repeat' first
      | (with_reducible exact ih0 _ _ _)
      | (with_reducible exact ih1 _ _ _)
      | (with_reducible exact selfstabref05_Arity.mono _ _)
      | (with_reducible exact LeO.refl _)
      | (with_reducible exact LeO.none _)
      | (with_reducible refine LeO.ite ?_ ?_)
      | (with_reducible refine LeO.bind ?_ (fun _ => ?_))
      | exact ih0 _ _ _
      | exact ih1 _ _ _
      | exact selfstabref05_Arity.mono _ _
      | exact LeO.none _
      | refine LeO.ite ?_ ?_
      | refine LeO.bind ?_ (fun _ => ?_)
set_option maxHeartbeats 6000000 in
set_option maxRecDepth 100000 in
theorem selfstabref05_End.calls (k : Nat) (A0 : Option Addr) (c0 : Nat) (l0 : List (S31)) (a1 : Int) (r : Int) (w : World) (hr0 : Kd.C k31 w A0 l0.length l0) (hc0 : l0.length ≤ c0) (h : selfstabref05_End.f k l0 a1 = some r) :
    Calls Try.prog 15 #[.slice A0 l0.length c0, .int .i64 a1] w fun e w' => e = .returned (.int .i64 r) ∧ Drawn0 w w' := by
  have HR0 := Aside0.mk hr0
  have HC0 := Aside0.mk hc0
  clear hr0 hc0
  have H : (if a1 < 0 then (selfstabref05_End.j0 k l0 a1 true) else (selfstabref05_End.j0 k l0 a1 (decide (a1 ≥ (l0.length : Int))))) = some r := h
  clear h
  have HC3 := Aside0.mk H
  clear H
  go_enter Try.func15, Try.ntmps15
  go_upto_region 1 with (fail)
  go_cut [15] (fun v15 wc => ∃ (kq : Nat) (x15_2 : Bool), v15 = .bool x15_2 ∧ Aside0 (selfstabref05_End.j0 kq l0 a1 x15_2 = some r) ∧ Aside0 (kq ≤ k) ∧ Drawn0 w wc)
  case first =>
    have H := HC3.out
    clear HC3
    by_cases c4 : a1 < 0
    · rw [if_pos c4] at H
      have c4b0 : decide (a1 < 0) = true := decide_eq_true c4
      clear c4
      (first | rw [c4b0] | (simp only [i64_w, i32_w]; rw [c4b0]) | skip)
      have H' := Aside0.mk H
      clear H
      go_wp2
      go_meet
      case rel => exact ⟨_, (true), (by first | rfl | (simp; done) | (simp [*]; done)), H', ⟨by first | omega | exact Nat.le_refl _⟩, by repeat (first | exact Drawn0.refl _ | apply Drawn0.step)⟩
    · rw [if_neg c4] at H
      have c4b0 : decide (a1 < 0) = false := decide_eq_false c4
      clear c4
      (first | rw [c4b0] | (simp only [i64_w, i32_w]; rw [c4b0]) | skip)
      have H' := Aside0.mk H
      clear H
      go_wp2
      go_meet
      case rel => exact ⟨_, (decide (a1 ≥ (l0.length : Int))), (by first | rfl | (simp; done) | (simp [*]; done)), H', ⟨by first | omega | exact Nat.le_refl _⟩, by repeat (first | exact Drawn0.refl _ | apply Drawn0.step)⟩
  case rest =>
    clear HC3
    try clear c1
    try clear p2
    try clear c4
    try clear c4b0
    obtain ⟨kq, x15_2, rfl, HA, HJ2, ⟨mc2, rfl⟩⟩ := hcut
    cases kq with
    | zero => exact absurd HA.out (by simp [selfstabref05_End.j0])
    | succ kj2 =>
      have H := HA.out
      clear HA
      simp only [selfstabref05_End.j0] at H
      by_cases c5 : x15_2 = true
      · subst c5
        have H1 : (some (-1)) = some r := by rw [if_pos rfl] at H; exact H
        clear H
        have H := H1
        clear H1
        obtain rfl := Option.some.inj H
        go_wp2
        go_ret
        exact ⟨by first | rfl | (simp; done) | (simp [*]; done), by repeat (first | exact Drawn0.refl _ | apply Drawn0.step)⟩
      · replace c5 := Bool.eq_false_iff.mpr c5
        subst c5
        have H1 : (selfstabref05_End.l0 kj2 l0 1 a1) = some r := by rw [if_neg (show ¬ (false = true) by decide)] at H; exact H
        clear H
        have H := H1
        clear H1
        have H' := Aside0.mk H
        clear H
        go_wp2
        go_loopg [5, 6] kj2 (fun kq v5 v6 w' => ∃ (x5_2 : Int) (x6_2 : Int), v5 = .int .i64 x5_2 ∧ v6 = .int .i64 x6_2 ∧ Aside0 (selfstabref05_End.l0 kq l0 x5_2 x6_2 = some r) ∧ Aside0 (kq ≤ kj2) ∧ Drawn0 w w')
        case atStart => exact ⟨(1), (a1), (by first | rfl | (simp; done) | (simp [*]; done)), (by first | rfl | (simp; done) | (simp [*]; done)), H', ⟨Nat.le_refl _⟩, by repeat (first | exact Drawn0.refl _ | apply Drawn0.step)⟩
        case round =>
          clear H'
          try clear c1
          try clear c2
          try clear p2
          try clear c4
          try clear c4b0
          try clear c5
          try clear p2
          obtain ⟨x5_2, x6_2, rfl, rfl, HA, HK2, ⟨m2, rfl⟩⟩ := hrel
          cases gk with
          | zero => exact absurd HA.out (by simp [selfstabref05_End.l0])
          | succ k2 =>
            have H := HA.out
            clear HA
            simp only [selfstabref05_End.l0] at H
            by_cases c6 : x6_2 < (l0.length : Int)
            · rw [if_pos c6] at H
              have c6b0 : decide (x6_2 < (l0.length : Int)) = true := decide_eq_true c6
              clear c6
              by_cases c7 : 0 ≤ x6_2
              · rw [if_pos c7] at H
                have c7b0 : decide (0 ≤ x6_2) = true := decide_eq_true c7
                clear c7
                replace H := Option.bind_eq_some_iff.mp H
                obtain ⟨t156, A80, H⟩ := H
                replace H : (if t156 < 0 then (some (-1)) else (if (wrap64 (x5_2 + (wrap64 (t156 - 1)))) = 0 then (some (wrap64 (x6_2 + 1))) else (selfstabref05_End.l0 k2 l0 (wrap64 (x5_2 + (wrap64 (t156 - 1)))) (wrap64 (x6_2 + 1))))) = some r := H
                have A8 := Aside0.mk A80
                clear A80
                by_cases c9 : t156 < 0
                · rw [if_pos c9] at H
                  have c9b0 : decide (t156 < 0) = true := decide_eq_true c9
                  clear c9
                  obtain rfl := Option.some.inj H
                  have p155 : 0 ≤ (x6_2 : Int) := of_decide_eq_true (by first | (with_reducible assumption) | assumption)
                  have q155 : x6_2 < (l0.length : Int) := of_decide_eq_true (by first | (with_reducible assumption) | assumption)
                  obtain ⟨ad155, e155, hx155_0, hx155_1⟩ := at_T31 HR0.out x6_2 p155 q155
                  cases e155
                  replace p155 := eq_true p155
                  replace q155 := eq_true q155
                  go_wp2_with (first | ((with_reducible refine gate_callee (f := 13) rfl ?_); refine goesL_ (some 28) rfl rfl Try.func13 (by kernel_rfl) rfl #[.int .i64 ((rd_T31 l0 x6_2).f0)] rfl (by (try simp only [List.map_toArray, List.map_cons, List.map_nil]); first | done | rfl | (simp only [List.length_drop, List.length_take]; rfl)) ?_; (with_reducible refine (selfstabref05_Arity.calls k2 ((rd_T31 l0 x6_2).f0) t156 _ A8.out).mono ?_); rintro e w' ⟨rfl, ⟨nd, rfl⟩⟩; refine ⟨_, rfl, ?_⟩))
                  go_ret
                  exact ⟨by first | rfl | (simp; done) | (simp [*]; done), by repeat (first | exact Drawn0.refl _ | apply Drawn0.step)⟩
                · rw [if_neg c9] at H
                  have c9b0 : decide (t156 < 0) = false := decide_eq_false c9
                  clear c9
                  by_cases c10 : (wrap64 (x5_2 + (wrap64 (t156 - 1)))) = 0
                  · rw [if_pos c10] at H
                    have c10b0 : ((wrap64 (x5_2 + (wrap64 (t156 - 1)))) == 0) = true := beq_iff_eq.mpr c10
                    have c10b1 : ((wrap64 (x5_2 + (wrap64 (t156 - 1)))) != 0) = false := bne_eq_false_iff_eq.mpr c10
                    clear c10
                    obtain rfl := Option.some.inj H
                    have p155 : 0 ≤ (x6_2 : Int) := of_decide_eq_true (by first | (with_reducible assumption) | assumption)
                    have q155 : x6_2 < (l0.length : Int) := of_decide_eq_true (by first | (with_reducible assumption) | assumption)
                    obtain ⟨ad155, e155, hx155_0, hx155_1⟩ := at_T31 HR0.out x6_2 p155 q155
                    cases e155
                    replace p155 := eq_true p155
                    replace q155 := eq_true q155
                    go_wp2_with (first | ((with_reducible refine gate_callee (f := 13) rfl ?_); refine goesL_ (some 28) rfl rfl Try.func13 (by kernel_rfl) rfl #[.int .i64 ((rd_T31 l0 x6_2).f0)] rfl (by (try simp only [List.map_toArray, List.map_cons, List.map_nil]); first | done | rfl | (simp only [List.length_drop, List.length_take]; rfl)) ?_; (with_reducible refine (selfstabref05_Arity.calls k2 ((rd_T31 l0 x6_2).f0) t156 _ A8.out).mono ?_); rintro e w' ⟨rfl, ⟨nd, rfl⟩⟩; refine ⟨_, rfl, ?_⟩))
                    go_ret
                    exact ⟨by first | rfl | (simp; done) | (simp [*]; done), by repeat (first | exact Drawn0.refl _ | apply Drawn0.step)⟩
                  · rw [if_neg c10] at H
                    have c10b0 : ((wrap64 (x5_2 + (wrap64 (t156 - 1)))) == 0) = false := beq_eq_false_iff_ne.mpr c10
                    have c10b1 : ((wrap64 (x5_2 + (wrap64 (t156 - 1)))) != 0) = true := bne_iff_ne.mpr c10
                    have H' := Aside0.mk H
                    clear H
                    have p155 : 0 ≤ (x6_2 : Int) := of_decide_eq_true (by first | (with_reducible assumption) | assumption)
                    have q155 : x6_2 < (l0.length : Int) := of_decide_eq_true (by first | (with_reducible assumption) | assumption)
                    obtain ⟨ad155, e155, hx155_0, hx155_1⟩ := at_T31 HR0.out x6_2 p155 q155
                    cases e155
                    replace p155 := eq_true p155
                    replace q155 := eq_true q155
                    go_wp2_with (first | ((with_reducible refine gate_callee (f := 13) rfl ?_); refine goesL_ (some 28) rfl rfl Try.func13 (by kernel_rfl) rfl #[.int .i64 ((rd_T31 l0 x6_2).f0)] rfl (by (try simp only [List.map_toArray, List.map_cons, List.map_nil]); first | done | rfl | (simp only [List.length_drop, List.length_take]; rfl)) ?_; (with_reducible refine (selfstabref05_Arity.calls k2 ((rd_T31 l0 x6_2).f0) t156 _ A8.out).mono ?_); rintro e w' ⟨rfl, ⟨nd, rfl⟩⟩; refine ⟨_, rfl, ?_⟩))
                    go_roundg k2
                    case measure => have := HJ2.out; have := HK2.out; omega
                    case rel => exact ⟨(wrap64 (x5_2 + (wrap64 (t156 - 1)))), (wrap64 (x6_2 + 1)), (by first | rfl | (simp; done) | (simp [*]; done)), (by first | rfl | (simp; done) | (simp [*]; done)), H', ⟨by have := HJ2.out; have := HK2.out; omega⟩, by repeat (first | exact Drawn0.refl _ | apply Drawn0.step)⟩
              · rw [if_neg c7] at H
                exact absurd H (by simp)
            · rw [if_neg c6] at H
              have c6b0 : decide (x6_2 < (l0.length : Int)) = false := decide_eq_false c6
              clear c6
              obtain rfl := Option.some.inj H
              go_wp2
              go_ret
              exact ⟨by first | rfl | (simp; done) | (simp [*]; done), by repeat (first | exact Drawn0.refl _ | apply Drawn0.step)⟩

/-! ### selfstabref05_Operand: function 17 -/
mutual
def selfstabref05_Operand.j0 : Nat → List (S31) → Int → Int → Bool → Option (Int)
  | 0, _, _, _, _ => none
  | k + 1, x0, x1, x2, x26 => if x26 = true then (some (-1)) else (selfstabref05_Operand.l0 k x0 x2 (wrap64 (x1 + 1)) 0)
def selfstabref05_Operand.l0 : Nat → List (S31) → Int → Int → Int → Option (Int)
  | 0, _, _, _, _ => none
  | k + 1, x0, x2, x7, x8 => if x8 < x2 then ((selfstabref05_End.f k x0 x7).bind fun t160 => (selfstabref05_Operand.l0 k x0 x2 t160 (wrap64 (x8 + 1)))) else (some x7)
end
def selfstabref05_Operand.f (k : Nat) (l0 : List (S31)) (a1 : Int) (a2 : Int) : Option (Int) := (selfstabref05_End.f k l0 a1).bind fun t157 => (if t157 < 0 then (selfstabref05_Operand.j0 k l0 a1 a2 true) else (if a2 < 0 then (selfstabref05_Operand.j0 k l0 a1 a2 true) else (if 0 ≤ a1 then (if a1 < (l0.length : Int) then ((selfstabref05_Arity.f k ((rd_T31 l0 a1).f0)).bind fun t159 => (selfstabref05_Operand.j0 k l0 a1 a2 (decide (a2 ≥ t159)))) else (none)) else (none))))
theorem selfstabref05_Operand.mono_l : ∀ k, (∀ y0 y1 y2 y3, LeO (selfstabref05_Operand.j0 k y0 y1 y2 y3) (selfstabref05_Operand.j0 (k + 1) y0 y1 y2 y3)) ∧ (∀ y0 y1 y2 y3, LeO (selfstabref05_Operand.l0 k y0 y1 y2 y3) (selfstabref05_Operand.l0 (k + 1) y0 y1 y2 y3))
  | 0 => ⟨fun _ _ _ _ r h => by simp [selfstabref05_Operand.j0] at h, fun _ _ _ _ r h => by simp [selfstabref05_Operand.l0] at h⟩
  | k + 1 => by
    obtain ⟨ih0, ih1⟩ := selfstabref05_Operand.mono_l k
    refine ⟨?_, ?_⟩
    · intro y0 y1 y2 y3
      unfold selfstabref05_Operand.j0
      repeat' first
      | (with_reducible exact ih0 _ _ _ _)
      | (with_reducible exact ih1 _ _ _ _)
      | (with_reducible exact selfstabref05_Arity.mono _ _)
      | (with_reducible exact selfstabref05_End.mono _ _ _)
      | (with_reducible exact LeO.refl _)
      | (with_reducible exact LeO.none _)
      | (with_reducible refine LeO.ite ?_ ?_)
      | (with_reducible refine LeO.bind ?_ (fun _ => ?_))
      | exact ih0 _ _ _ _
      | exact ih1 _ _ _ _
      | exact selfstabref05_Arity.mono _ _
      | exact selfstabref05_End.mono _ _ _
      | exact LeO.none _
      | refine LeO.ite ?_ ?_
      | refine LeO.bind ?_ (fun _ => ?_)
    · intro y0 y1 y2 y3
      unfold selfstabref05_Operand.l0
      repeat' first
      | (with_reducible exact ih0 _ _ _ _)
      | (with_reducible exact ih1 _ _ _ _)
      | (with_reducible exact selfstabref05_Arity.mono _ _)
      | (with_reducible exact selfstabref05_End.mono _ _ _)
      | (with_reducible exact LeO.refl _)
      | (with_reducible exact LeO.none _)
      | (with_reducible refine LeO.ite ?_ ?_)
      | (with_reducible refine LeO.bind ?_ (fun _ => ?_))
      | exact ih0 _ _ _ _
      | exact ih1 _ _ _ _
      | exact selfstabref05_Arity.mono _ _
      | exact selfstabref05_End.mono _ _ _
      | exact LeO.none _
      | refine LeO.ite ?_ ?_
      | refine LeO.bind ?_ (fun _ => ?_)
theorem selfstabref05_Operand.mono : ∀ a0 a1 a2 k, LeO (selfstabref05_Operand.f k a0 a1 a2) (selfstabref05_Operand.f (k + 1) a0 a1 a2) := by
  intro a0 a1 a2 k
  obtain ⟨ih0, ih1⟩ := selfstabref05_Operand.mono_l k
  unfold selfstabref05_Operand.f
  repeat' first
      | (with_reducible exact ih0 _ _ _ _)
      | (with_reducible exact ih1 _ _ _ _)
      | (with_reducible exact selfstabref05_Arity.mono _ _)
      | (with_reducible exact selfstabref05_End.mono _ _ _)
      | (with_reducible exact LeO.refl _)
      | (with_reducible exact LeO.none _)
      | (with_reducible refine LeO.ite ?_ ?_)
      | (with_reducible refine LeO.bind ?_ (fun _ => ?_))
      | exact ih0 _ _ _ _
      | exact ih1 _ _ _ _
      | exact selfstabref05_Arity.mono _ _
      | exact selfstabref05_End.mono _ _ _
      | exact LeO.none _
      | refine LeO.ite ?_ ?_
      | refine LeO.bind ?_ (fun _ => ?_)
set_option maxHeartbeats 6000000 in
set_option maxRecDepth 100000 in
theorem selfstabref05_Operand.calls (k : Nat) (A0 : Option Addr) (c0 : Nat) (l0 : List (S31)) (a1 : Int) (a2 : Int) (r : Int) (w : World) (hr0 : Kd.C k31 w A0 l0.length l0) (hc0 : l0.length ≤ c0) (h : selfstabref05_Operand.f k l0 a1 a2 = some r) :
    Calls Try.prog 17 #[.slice A0 l0.length c0, .int .i64 a1, .int .i64 a2] w fun e w' => e = .returned (.int .i64 r) ∧ Drawn0 w w' := by
  have HR0 := Aside0.mk hr0
  have HC0 := Aside0.mk hc0
  clear hr0 hc0
  have H : ((selfstabref05_End.f k l0 a1).bind fun t157 => (if t157 < 0 then (selfstabref05_Operand.j0 k l0 a1 a2 true) else (if a2 < 0 then (selfstabref05_Operand.j0 k l0 a1 a2 true) else (if 0 ≤ a1 then (if a1 < (l0.length : Int) then ((selfstabref05_Arity.f k ((rd_T31 l0 a1).f0)).bind fun t159 => (selfstabref05_Operand.j0 k l0 a1 a2 (decide (a2 ≥ t159)))) else (none)) else (none))))) = some r := h
  clear h
  have HC4 := Aside0.mk H
  clear H
  go_enter Try.func17, Try.ntmps17
  go_upto_region 1 with (fail)
  go_cut [26] (fun v26 wc => ∃ (kq : Nat) (x26_3 : Bool), v26 = .bool x26_3 ∧ Aside0 (selfstabref05_Operand.j0 kq l0 a1 a2 x26_3 = some r) ∧ Aside0 (kq ≤ k) ∧ Drawn0 w wc)
  case first =>
    have H := HC4.out
    clear HC4
    replace H := Option.bind_eq_some_iff.mp H
    obtain ⟨t157, A50, H⟩ := H
    replace H : (if t157 < 0 then (selfstabref05_Operand.j0 k l0 a1 a2 true) else (if a2 < 0 then (selfstabref05_Operand.j0 k l0 a1 a2 true) else (if 0 ≤ a1 then (if a1 < (l0.length : Int) then ((selfstabref05_Arity.f k ((rd_T31 l0 a1).f0)).bind fun t159 => (selfstabref05_Operand.j0 k l0 a1 a2 (decide (a2 ≥ t159)))) else (none)) else (none)))) = some r := H
    have A5 := Aside0.mk A50
    clear A50
    by_cases c6 : t157 < 0
    · rw [if_pos c6] at H
      have c6b0 : decide (t157 < 0) = true := decide_eq_true c6
      clear c6
      (first | rw [c6b0] | (simp only [i64_w, i32_w]; rw [c6b0]) | skip)
      have H' := Aside0.mk H
      clear H
      go_wp2_with (first | ((with_reducible refine gate_callee (f := 15) rfl ?_); refine goesL_ (some 11) rfl rfl Try.func15 (by kernel_rfl) rfl #[.slice A0 l0.length c0, .int .i64 a1] rfl (by (try simp only [List.map_toArray, List.map_cons, List.map_nil]); first | done | rfl | (simp only [List.length_drop, List.length_take]; rfl)) ?_; (with_reducible refine (selfstabref05_End.calls k _ _ l0 a1 t157 _ ?side1 ?side2 A5.out).mono ?_); (case side1 => repeat (first | exact HR0.out | (with_reducible refine Kd.C_alloc ?_ _) | (with_reducible refine Kd.C_drewN ?_ _) | (with_reducible refine Kd.C_drew ?_))); (case side2 => exact HC0.out); rintro e w' ⟨rfl, ⟨nd, rfl⟩⟩; refine ⟨_, rfl, ?_⟩))
      go_meet
      case rel => exact ⟨_, (true), (by first | rfl | (simp; done) | (simp [*]; done)), H', ⟨by first | omega | exact Nat.le_refl _⟩, by repeat (first | exact Drawn0.refl _ | apply Drawn0.step)⟩
    · rw [if_neg c6] at H
      have c6b0 : decide (t157 < 0) = false := decide_eq_false c6
      clear c6
      (first | rw [c6b0] | (simp only [i64_w, i32_w]; rw [c6b0]) | skip)
      by_cases c7 : a2 < 0
      · rw [if_pos c7] at H
        have c7b0 : decide (a2 < 0) = true := decide_eq_true c7
        clear c7
        have H' := Aside0.mk H
        clear H
        go_wp2_with (first | ((with_reducible refine gate_callee (f := 15) rfl ?_); refine goesL_ (some 11) rfl rfl Try.func15 (by kernel_rfl) rfl #[.slice A0 l0.length c0, .int .i64 a1] rfl (by (try simp only [List.map_toArray, List.map_cons, List.map_nil]); first | done | rfl | (simp only [List.length_drop, List.length_take]; rfl)) ?_; (with_reducible refine (selfstabref05_End.calls k _ _ l0 a1 t157 _ ?side1 ?side2 A5.out).mono ?_); (case side1 => repeat (first | exact HR0.out | (with_reducible refine Kd.C_alloc ?_ _) | (with_reducible refine Kd.C_drewN ?_ _) | (with_reducible refine Kd.C_drew ?_))); (case side2 => exact HC0.out); rintro e w' ⟨rfl, ⟨nd, rfl⟩⟩; refine ⟨_, rfl, ?_⟩))
        go_meet
        case rel => exact ⟨_, (true), (by first | rfl | (simp; done) | (simp [*]; done)), H', ⟨by first | omega | exact Nat.le_refl _⟩, by repeat (first | exact Drawn0.refl _ | apply Drawn0.step)⟩
      · rw [if_neg c7] at H
        have c7b0 : decide (a2 < 0) = false := decide_eq_false c7
        clear c7
        by_cases c8 : 0 ≤ a1
        · rw [if_pos c8] at H
          have c8b0 : decide (0 ≤ a1) = true := decide_eq_true c8
          clear c8
          by_cases c9 : a1 < (l0.length : Int)
          · rw [if_pos c9] at H
            have c9b0 : decide (a1 < (l0.length : Int)) = true := decide_eq_true c9
            clear c9
            replace H := Option.bind_eq_some_iff.mp H
            obtain ⟨t159, A100, H⟩ := H
            replace H : (selfstabref05_Operand.j0 k l0 a1 a2 (decide (a2 ≥ t159))) = some r := H
            have A10 := Aside0.mk A100
            clear A100
            have H' := Aside0.mk H
            clear H
            go_wp2_with (first | ((with_reducible refine gate_callee (f := 15) rfl ?_); refine goesL_ (some 11) rfl rfl Try.func15 (by kernel_rfl) rfl #[.slice A0 l0.length c0, .int .i64 a1] rfl (by (try simp only [List.map_toArray, List.map_cons, List.map_nil]); first | done | rfl | (simp only [List.length_drop, List.length_take]; rfl)) ?_; (with_reducible refine (selfstabref05_End.calls k _ _ l0 a1 t157 _ ?side1 ?side2 A5.out).mono ?_); (case side1 => repeat (first | exact HR0.out | (with_reducible refine Kd.C_alloc ?_ _) | (with_reducible refine Kd.C_drewN ?_ _) | (with_reducible refine Kd.C_drew ?_))); (case side2 => exact HC0.out); rintro e w' ⟨rfl, ⟨nd, rfl⟩⟩; refine ⟨_, rfl, ?_⟩; have p158 : 0 ≤ (a1 : Int) := of_decide_eq_true (by first | (with_reducible assumption) | assumption); have q158 : a1 < (l0.length : Int) := of_decide_eq_true (by first | (with_reducible assumption) | assumption); obtain ⟨ad158, e158, hx158_0, hx158_1⟩ := at_T31 HR0.out a1 p158 q158; cases e158; replace p158 := eq_true p158; replace q158 := eq_true q158) | (go_at_call 13; (with_reducible refine (selfstabref05_Arity.calls k ((rd_T31 l0 a1).f0) t159 _ A10.out).mono ?_); rintro e w' ⟨rfl, ⟨nd, rfl⟩⟩))
            go_meet
            case rel => exact ⟨_, (decide (a2 ≥ t159)), (by first | rfl | (simp; done) | (simp [*]; done)), H', ⟨by first | omega | exact Nat.le_refl _⟩, by repeat (first | exact Drawn0.refl _ | apply Drawn0.step)⟩
          · rw [if_neg c9] at H
            exact absurd H (by simp)
        · rw [if_neg c8] at H
          exact absurd H (by simp)
  case rest =>
    clear HC4
    try clear c1
    try clear p1
    try clear q1
    try clear hx1
    try clear p2
    try clear c6
    try clear c6b0
    try clear c7
    try clear c7b0
    try clear c8
    try clear c8b0
    try clear c9
    try clear c9b0
    try clear hx158_0
    try clear hx158_1
    try clear p158
    try clear q158
    obtain ⟨kq, x26_3, rfl, HA, HJ3, ⟨mc3, rfl⟩⟩ := hcut
    cases kq with
    | zero => exact absurd HA.out (by simp [selfstabref05_Operand.j0])
    | succ kj3 =>
      have H := HA.out
      clear HA
      simp only [selfstabref05_Operand.j0] at H
      by_cases c11 : x26_3 = true
      · subst c11
        have H1 : (some (-1)) = some r := by rw [if_pos rfl] at H; exact H
        clear H
        have H := H1
        clear H1
        obtain rfl := Option.some.inj H
        go_wp2
        go_ret
        exact ⟨by first | rfl | (simp; done) | (simp [*]; done), by repeat (first | exact Drawn0.refl _ | apply Drawn0.step)⟩
      · replace c11 := Bool.eq_false_iff.mpr c11
        subst c11
        have H1 : (selfstabref05_Operand.l0 kj3 l0 a2 (wrap64 (a1 + 1)) 0) = some r := by rw [if_neg (show ¬ (false = true) by decide)] at H; exact H
        clear H
        have H := H1
        clear H1
        have H' := Aside0.mk H
        clear H
        go_wp2
        go_loopg [7, 8] kj3 (fun kq v7 v8 w' => ∃ (x7_2 : Int) (x8_2 : Int), v7 = .int .i64 x7_2 ∧ v8 = .int .i64 x8_2 ∧ Aside0 (selfstabref05_Operand.l0 kq l0 a2 x7_2 x8_2 = some r) ∧ Aside0 (kq ≤ kj3) ∧ Drawn0 w w')
        case atStart => exact ⟨(wrap64 (a1 + 1)), (0), (by first | rfl | (simp; done) | (simp [*]; done)), (by first | rfl | (simp; done) | (simp [*]; done)), H', ⟨Nat.le_refl _⟩, by repeat (first | exact Drawn0.refl _ | apply Drawn0.step)⟩
        case round =>
          clear H'
          try clear c1
          try clear p1
          try clear q1
          try clear hx1
          try clear p2
          try clear c3
          try clear c6
          try clear c6b0
          try clear p6
          try clear c7
          try clear c7b0
          try clear c8
          try clear c8b0
          try clear c9
          try clear c9b0
          try clear c11
          try clear hx158_0
          try clear hx158_1
          try clear p1
          try clear p158
          try clear p2
          try clear q1
          try clear q158
          obtain ⟨x7_2, x8_2, rfl, rfl, HA, HK2, ⟨m2, rfl⟩⟩ := hrel
          cases gk with
          | zero => exact absurd HA.out (by simp [selfstabref05_Operand.l0])
          | succ k2 =>
            have H := HA.out
            clear HA
            simp only [selfstabref05_Operand.l0] at H
            by_cases c12 : x8_2 < a2
            · rw [if_pos c12] at H
              have c12b0 : decide (x8_2 < a2) = true := decide_eq_true c12
              clear c12
              replace H := Option.bind_eq_some_iff.mp H
              obtain ⟨t160, A130, H⟩ := H
              replace H : (selfstabref05_Operand.l0 k2 l0 a2 t160 (wrap64 (x8_2 + 1))) = some r := H
              have A13 := Aside0.mk A130
              clear A130
              have H' := Aside0.mk H
              clear H
              go_wp2_with (first | ((with_reducible refine gate_callee (f := 15) rfl ?_); refine goesL_ (some 36) rfl rfl Try.func15 (by kernel_rfl) rfl #[.slice A0 l0.length c0, .int .i64 x7_2] rfl (by (try simp only [List.map_toArray, List.map_cons, List.map_nil]); first | done | rfl | (simp only [List.length_drop, List.length_take]; rfl)) ?_; (with_reducible refine (selfstabref05_End.calls k2 _ _ l0 x7_2 t160 _ ?side1 ?side2 A13.out).mono ?_); (case side1 => repeat (first | exact HR0.out | (with_reducible refine Kd.C_alloc ?_ _) | (with_reducible refine Kd.C_drewN ?_ _) | (with_reducible refine Kd.C_drew ?_))); (case side2 => exact HC0.out); rintro e w' ⟨rfl, ⟨nd, rfl⟩⟩; refine ⟨_, rfl, ?_⟩))
              go_roundg k2
              case measure => have := HJ3.out; have := HK2.out; omega
              case rel => exact ⟨(t160), (wrap64 (x8_2 + 1)), (by first | rfl | (simp; done) | (simp [*]; done)), (by first | rfl | (simp; done) | (simp [*]; done)), H', ⟨by have := HJ3.out; have := HK2.out; omega⟩, by repeat (first | exact Drawn0.refl _ | apply Drawn0.step)⟩
            · rw [if_neg c12] at H
              have c12b0 : decide (x8_2 < a2) = false := decide_eq_false c12
              clear c12
              obtain rfl := Option.some.inj H
              go_wp2
              go_ret
              exact ⟨by first | rfl | (simp; done) | (simp [*]; done), by repeat (first | exact Drawn0.refl _ | apply Drawn0.step)⟩

/-! ### selfstabref05_one: function 35 -/
def selfstabref05_one.f (k : Nat) (l0 : List (S31)) : Option (Bool) := if (l0.length : Int) > 0 then ((selfstabref05_End.f k l0 0).bind fun t161 => (some (t161 == (l0.length : Int)))) else (some false)
theorem selfstabref05_one.mono : ∀ a0 k, LeO (selfstabref05_one.f k a0) (selfstabref05_one.f (k + 1) a0) := by
  intro a0 k
  unfold selfstabref05_one.f
  repeat' first
      | (with_reducible exact selfstabref05_End.mono _ _ _)
      | (with_reducible exact LeO.refl _)
      | (with_reducible exact LeO.none _)
      | (with_reducible refine LeO.ite ?_ ?_)
      | (with_reducible refine LeO.bind ?_ (fun _ => ?_))
      | exact selfstabref05_End.mono _ _ _
      | exact LeO.none _
      | refine LeO.ite ?_ ?_
      | refine LeO.bind ?_ (fun _ => ?_)
set_option maxHeartbeats 6000000 in
set_option maxRecDepth 100000 in
theorem selfstabref05_one.calls (k : Nat) (A0 : Option Addr) (c0 : Nat) (l0 : List (S31)) (r : Bool) (w : World) (hr0 : Kd.C k31 w A0 l0.length l0) (hc0 : l0.length ≤ c0) (h : selfstabref05_one.f k l0 = some r) :
    Calls Try.prog 35 #[.slice A0 l0.length c0] w fun e w' => e = .returned (.bool r) ∧ Drawn0 w w' := by
  have HR0 := Aside0.mk hr0
  have HC0 := Aside0.mk hc0
  clear hr0 hc0
  have H : (if (l0.length : Int) > 0 then ((selfstabref05_End.f k l0 0).bind fun t161 => (some (t161 == (l0.length : Int)))) else (some false)) = some r := h
  clear h
  by_cases c2 : (l0.length : Int) > 0
  · rw [if_pos c2] at H
    have c2b0 : decide (0 < (l0.length : Int)) = true := decide_eq_true c2
    have c2b1 : decide (0 < l0.length) = true := decide_eq_true (by omega)
    clear c2
    replace H := Option.bind_eq_some_iff.mp H
    obtain ⟨t161, A30, H⟩ := H
    replace H : (some (t161 == (l0.length : Int))) = some r := H
    have A3 := Aside0.mk A30
    clear A30
    obtain rfl := Option.some.inj H
    go_enter Try.func35, Try.ntmps35
    go_wp2_with (first | (go_at_call 15; (with_reducible refine (selfstabref05_End.calls k _ _ l0 0 t161 _ ?side1 ?side2 A3.out).mono ?_); (case side1 => repeat (first | exact HR0.out | (with_reducible refine Kd.C_alloc ?_ _) | (with_reducible refine Kd.C_drewN ?_ _) | (with_reducible refine Kd.C_drew ?_))); (case side2 => exact HC0.out); rintro e w' ⟨rfl, ⟨nd, rfl⟩⟩))
    go_ret
    exact ⟨by first | rfl | (simp; done) | (simp [*]; done), by repeat (first | exact Drawn0.refl _ | apply Drawn0.step)⟩
  · rw [if_neg c2] at H
    have c2b0 : decide (0 < (l0.length : Int)) = false := decide_eq_false c2
    have c2b1 : decide (0 < l0.length) = false := decide_eq_false (by omega)
    clear c2
    obtain rfl := Option.some.inj H
    go_enter Try.func35, Try.ntmps35
    go_wp2
    go_ret
    exact ⟨by first | rfl | (simp; done) | (simp [*]; done), by repeat (first | exact Drawn0.refl _ | apply Drawn0.step)⟩

/-! ### selfstabref05_Aggregate: function 25 -/
def selfstabref05_Aggregate.f (a0 : Int) : Option (Bool) := if a0 ≥ 20 then (some (decide (a0 ≤ 29))) else (some false)
set_option maxHeartbeats 6000000 in
set_option maxRecDepth 100000 in
theorem selfstabref05_Aggregate.calls (a0 : Int) (r : Bool) (w : World) (h : selfstabref05_Aggregate.f a0 = some r) :
    Calls Try.prog 25 #[.int .i64 a0] w fun e w' => e = .returned (.bool r) ∧ Drawn0 w w' := by
  have H : (if a0 ≥ 20 then (some (decide (a0 ≤ 29))) else (some false)) = some r := h
  clear h
  by_cases c2 : a0 ≥ 20
  · rw [if_pos c2] at H
    have c2b0 : decide (20 ≤ a0) = true := decide_eq_true c2
    clear c2
    obtain rfl := Option.some.inj H
    go_enter Try.func25, Try.ntmps25
    go_wp2
    go_ret
    exact ⟨by first | rfl | (simp; done) | (simp [*]; done), by repeat (first | exact Drawn0.refl _ | apply Drawn0.step)⟩
  · rw [if_neg c2] at H
    have c2b0 : decide (20 ≤ a0) = false := decide_eq_false c2
    clear c2
    obtain rfl := Option.some.inj H
    go_enter Try.func25, Try.ntmps25
    go_wp2
    go_ret
    exact ⟨by first | rfl | (simp; done) | (simp [*]; done), by repeat (first | exact Drawn0.refl _ | apply Drawn0.step)⟩

end Go.Proofs.Ytbjigmgiecgolaa.P
