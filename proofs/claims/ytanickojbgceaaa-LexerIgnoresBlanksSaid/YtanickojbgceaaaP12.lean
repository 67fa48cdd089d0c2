-- made by a program of mine (wip/tools/pp.py over the kit's print)
import Derived.Test.YtanickojbgceaaaP0
namespace Go.Proofs.Ytanickojbgceaaa.P
open Go.RowKit Go.Proofs.YtanickojbgceaaaW.PrintWords Go.Proofs.YtanickojbgceaaaW.PrintLast Go.Proofs.YtanickojbgceaaaW.PrintMore
attribute [local go_sem] max2_int min2_int max_two min_two max_three min_three max_four min_four   -- for this text's walks alone
set_option linter.unusedVariables false
set_option linter.unusedSimpArgs false

/-! ### selfstablaw04_blank: function 16 -/
def selfstablaw04_blank.f (l0 : List Int) (a1 : Int) : Option (ByteArray) := if a1 ≥ (l0.length : Int) then (some (⟨#[32]⟩ : ByteArray)) else (if 0 ≤ a1 then (if a1 < (l0.length : Int) then (if (Int.tmod (rd l0 a1) 5) = 0 then (some (⟨#[10]⟩ : ByteArray)) else (if (Int.tmod (rd l0 a1) 5) = 1 then (some (⟨#[9, 32, 13]⟩ : ByteArray)) else (if (Int.tmod (rd l0 a1) 5) = 2 then (some (⟨#[35, 32, 97, 32, 58, 61, 32, 98, 59, 10]⟩ : ByteArray)) else (if (Int.tmod (rd l0 a1) 5) = 3 then (some (⟨#[32, 35, 10, 35, 10, 32]⟩ : ByteArray)) else (some (⟨#[32, 32]⟩ : ByteArray)))))) else (none)) else (none))
set_option maxHeartbeats 6000000 in
set_option maxRecDepth 100000 in
theorem selfstablaw04_blank.calls (A0 : Option Addr) (c0 : Nat) (l0 : List Int) (a1 : Int) (r : ByteArray) (w : World) (hr0 : Kd.C (Kd.int .u8) w A0 l0.length l0) (hc0 : l0.length ≤ c0) (h : selfstablaw04_blank.f l0 a1 = some r) :
    Calls Try.prog 16 #[.slice A0 l0.length c0, .int .i64 a1] w fun e w' => e = .returned (.string r) ∧ Drawn0 w w' := by
  have HR0 := Aside0.mk hr0
  have HC0 := Aside0.mk hc0
  clear hr0 hc0
  have H : (if a1 ≥ (l0.length : Int) then (some (⟨#[32]⟩ : ByteArray)) else (if 0 ≤ a1 then (if a1 < (l0.length : Int) then (if (Int.tmod (rd l0 a1) 5) = 0 then (some (⟨#[10]⟩ : ByteArray)) else (if (Int.tmod (rd l0 a1) 5) = 1 then (some (⟨#[9, 32, 13]⟩ : ByteArray)) else (if (Int.tmod (rd l0 a1) 5) = 2 then (some (⟨#[35, 32, 97, 32, 58, 61, 32, 98, 59, 10]⟩ : ByteArray)) else (if (Int.tmod (rd l0 a1) 5) = 3 then (some (⟨#[32, 35, 10, 35, 10, 32]⟩ : ByteArray)) else (some (⟨#[32, 32]⟩ : ByteArray)))))) else (none)) else (none))) = some r := h
  clear h
  by_cases c3 : a1 ≥ (l0.length : Int)
  · rw [if_pos c3] at H
    have c3b0 : decide ((l0.length : Int) ≤ a1) = true := decide_eq_true c3
    clear c3
    obtain rfl := Option.some.inj H
    go_enter Try.func16, Try.ntmps16
    go_wp2
    go_ret
    exact ⟨by first | rfl | (simp; done) | (simp [*]; done), by repeat (first | exact Drawn0.refl _ | apply Drawn0.step)⟩
  · rw [if_neg c3] at H
    have c3b0 : decide ((l0.length : Int) ≤ a1) = false := decide_eq_false c3
    clear c3
    by_cases c4 : 0 ≤ a1
    · rw [if_pos c4] at H
      have c4b0 : decide (0 ≤ a1) = true := decide_eq_true c4
      clear c4
      by_cases c5 : a1 < (l0.length : Int)
      · rw [if_pos c5] at H
        have c5b0 : decide (a1 < (l0.length : Int)) = true := decide_eq_true c5
        clear c5
        by_cases c6 : (Int.tmod (rd l0 a1) 5) = 0
        · rw [if_pos c6] at H
          have c6b0 : ((Int.tmod (rd l0 a1) 5) == 0) = true := beq_iff_eq.mpr c6
          have c6b1 : ((Int.tmod (rd l0 a1) 5) != 0) = false := bne_eq_false_iff_eq.mpr c6
          clear c6
          obtain rfl := Option.some.inj H
          have p246 : 0 ≤ (a1 : Int) := of_decide_eq_true (by first | (with_reducible assumption) | assumption)
          have q246 : a1 < (l0.length : Int) := of_decide_eq_true (by first | (with_reducible assumption) | assumption)
          obtain ⟨ad246, e246, hx246_0⟩ := Kd.at_int HR0.out a1 p246 q246
          cases e246
          replace p246 := eq_true p246
          replace q246 := eq_true q246
          go_enter Try.func16, Try.ntmps16
          go_wp2
          go_ret
          exact ⟨by first | rfl | (simp; done) | (simp [*]; done), by repeat (first | exact Drawn0.refl _ | apply Drawn0.step)⟩
        · rw [if_neg c6] at H
          have c6b0 : ((Int.tmod (rd l0 a1) 5) == 0) = false := beq_eq_false_iff_ne.mpr c6
          have c6b1 : ((Int.tmod (rd l0 a1) 5) != 0) = true := bne_iff_ne.mpr c6
          by_cases c7 : (Int.tmod (rd l0 a1) 5) = 1
          · rw [if_pos c7] at H
            have c7b0 : ((Int.tmod (rd l0 a1) 5) == 1) = true := beq_iff_eq.mpr c7
            have c7b1 : ((Int.tmod (rd l0 a1) 5) != 1) = false := bne_eq_false_iff_eq.mpr c7
            clear c7
            obtain rfl := Option.some.inj H
            have p246 : 0 ≤ (a1 : Int) := of_decide_eq_true (by first | (with_reducible assumption) | assumption)
            have q246 : a1 < (l0.length : Int) := of_decide_eq_true (by first | (with_reducible assumption) | assumption)
            obtain ⟨ad246, e246, hx246_0⟩ := Kd.at_int HR0.out a1 p246 q246
            cases e246
            replace p246 := eq_true p246
            replace q246 := eq_true q246
            go_enter Try.func16, Try.ntmps16
            go_wp2
            go_ret
            exact ⟨by first | rfl | (simp; done) | (simp [*]; done), by repeat (first | exact Drawn0.refl _ | apply Drawn0.step)⟩
          · rw [if_neg c7] at H
            have c7b0 : ((Int.tmod (rd l0 a1) 5) == 1) = false := beq_eq_false_iff_ne.mpr c7
            have c7b1 : ((Int.tmod (rd l0 a1) 5) != 1) = true := bne_iff_ne.mpr c7
            by_cases c8 : (Int.tmod (rd l0 a1) 5) = 2
            · rw [if_pos c8] at H
              have c8b0 : ((Int.tmod (rd l0 a1) 5) == 2) = true := beq_iff_eq.mpr c8
              have c8b1 : ((Int.tmod (rd l0 a1) 5) != 2) = false := bne_eq_false_iff_eq.mpr c8
              clear c8
              obtain rfl := Option.some.inj H
              have p246 : 0 ≤ (a1 : Int) := of_decide_eq_true (by first | (with_reducible assumption) | assumption)
              have q246 : a1 < (l0.length : Int) := of_decide_eq_true (by first | (with_reducible assumption) | assumption)
              obtain ⟨ad246, e246, hx246_0⟩ := Kd.at_int HR0.out a1 p246 q246
              cases e246
              replace p246 := eq_true p246
              replace q246 := eq_true q246
              go_enter Try.func16, Try.ntmps16
              go_wp2
              go_ret
              exact ⟨by first | rfl | (simp; done) | (simp [*]; done), by repeat (first | exact Drawn0.refl _ | apply Drawn0.step)⟩
            · rw [if_neg c8] at H
              have c8b0 : ((Int.tmod (rd l0 a1) 5) == 2) = false := beq_eq_false_iff_ne.mpr c8
              have c8b1 : ((Int.tmod (rd l0 a1) 5) != 2) = true := bne_iff_ne.mpr c8
              by_cases c9 : (Int.tmod (rd l0 a1) 5) = 3
              · rw [if_pos c9] at H
                have c9b0 : ((Int.tmod (rd l0 a1) 5) == 3) = true := beq_iff_eq.mpr c9
                have c9b1 : ((Int.tmod (rd l0 a1) 5) != 3) = false := bne_eq_false_iff_eq.mpr c9
                clear c9
                obtain rfl := Option.some.inj H
                have p246 : 0 ≤ (a1 : Int) := of_decide_eq_true (by first | (with_reducible assumption) | assumption)
                have q246 : a1 < (l0.length : Int) := of_decide_eq_true (by first | (with_reducible assumption) | assumption)
                obtain ⟨ad246, e246, hx246_0⟩ := Kd.at_int HR0.out a1 p246 q246
                cases e246
                replace p246 := eq_true p246
                replace q246 := eq_true q246
                go_enter Try.func16, Try.ntmps16
                go_wp2
                go_ret
                exact ⟨by first | rfl | (simp; done) | (simp [*]; done), by repeat (first | exact Drawn0.refl _ | apply Drawn0.step)⟩
              · rw [if_neg c9] at H
                have c9b0 : ((Int.tmod (rd l0 a1) 5) == 3) = false := beq_eq_false_iff_ne.mpr c9
                have c9b1 : ((Int.tmod (rd l0 a1) 5) != 3) = true := bne_iff_ne.mpr c9
                obtain rfl := Option.some.inj H
                have p246 : 0 ≤ (a1 : Int) := of_decide_eq_true (by first | (with_reducible assumption) | assumption)
                have q246 : a1 < (l0.length : Int) := of_decide_eq_true (by first | (with_reducible assumption) | assumption)
                obtain ⟨ad246, e246, hx246_0⟩ := Kd.at_int HR0.out a1 p246 q246
                cases e246
                replace p246 := eq_true p246
                replace q246 := eq_true q246
                go_enter Try.func16, Try.ntmps16
                go_wp2
                go_ret
                exact ⟨by first | rfl | (simp; done) | (simp [*]; done), by repeat (first | exact Drawn0.refl _ | apply Drawn0.step)⟩
      · rw [if_neg c5] at H
        exact absurd H (by simp)
    · rw [if_neg c4] at H
      exact absurd H (by simp)

end Go.Proofs.Ytanickojbgceaaa.P
