-- made by a program of mine (wip/tools/pp.py over the kit's print)
import Derived.Test.YtanickojbgceaaaP0
import Derived.Test.YtanickojbgceaaaP2
import Derived.Test.YtanickojbgceaaaP3
import Derived.Test.YtanickojbgceaaaP14
namespace Go.Proofs.Ytanickojbgceaaa.P
open Go.RowKit Go.Proofs.YtanickojbgceaaaW.PrintWords Go.Proofs.YtanickojbgceaaaW.PrintLast Go.Proofs.YtanickojbgceaaaW.PrintMore
attribute [local go_sem] max2_int min2_int max_two min_two max_three min_three max_four min_four   -- for this text's walks alone
set_option linter.unusedVariables false
set_option linter.unusedSimpArgs false

/-! ### selfstabref04_Reserved: function 18 -/
mutual
def selfstabref04_Reserved.j0 : Nat → ByteArray → Bool → Option (Bool)
  | 0, _, _ => none
  | k + 1, x3, x4 => if x4 = true then (some true) else (if x3.toList = ([97, 108, 108] : List UInt8) then (selfstabref04_Reserved.j1 k (x3.toList == ([97, 108, 108] : List UInt8))) else (if x3.toList = ([115, 111, 109, 101] : List UInt8) then (selfstabref04_Reserved.j1 k (x3.toList == ([115, 111, 109, 101] : List UInt8))) else (if x3.toList = ([99, 111, 117, 110, 116] : List UInt8) then (selfstabref04_Reserved.j1 k (x3.toList == ([99, 111, 117, 110, 116] : List UInt8))) else (if x3.toList = ([102, 105, 114, 115, 116] : List UInt8) then (selfstabref04_Reserved.j1 k (x3.toList == ([102, 105, 114, 115, 116] : List UInt8))) else (if x3.toList = ([109, 105, 110] : List UInt8) then (selfstabref04_Reserved.j1 k (x3.toList == ([109, 105, 110] : List UInt8))) else (if x3.toList = ([109, 97, 120] : List UInt8) then (selfstabref04_Reserved.j1 k (x3.toList == ([109, 97, 120] : List UInt8))) else (if x3.toList = ([115, 117, 109] : List UInt8) then (selfstabref04_Reserved.j1 k (x3.toList == ([115, 117, 109] : List UInt8))) else (if x3.toList = ([109, 101, 120] : List UInt8) then (selfstabref04_Reserved.j1 k (x3.toList == ([109, 101, 120] : List UInt8))) else (if x3.toList = ([115, 101, 99, 111, 110, 100] : List UInt8) then (selfstabref04_Reserved.j1 k (x3.toList == ([115, 101, 99, 111, 110, 100] : List UInt8))) else (selfstabref04_Reserved.j1 k (x3.toList == ([104, 101, 97, 100] : List UInt8))))))))))))
def selfstabref04_Reserved.j1 : Nat → Bool → Option (Bool)
  | 0, _ => none
  | k + 1, x21 => if x21 = true then (some true) else (some false)
end
def selfstabref04_Reserved.f (k : Nat) (a0 : ByteArray) : Option (Bool) := if a0.toList = ([112, 114, 111, 103, 114, 97, 109] : List UInt8) then (selfstabref04_Reserved.j0 k a0 (a0.toList == ([112, 114, 111, 103, 114, 97, 109] : List UInt8))) else (if a0.toList = ([118, 97, 114] : List UInt8) then (selfstabref04_Reserved.j0 k a0 (a0.toList == ([118, 97, 114] : List UInt8))) else (if a0.toList = ([114, 117, 108, 101] : List UInt8) then (selfstabref04_Reserved.j0 k a0 (a0.toList == ([114, 117, 108, 101] : List UInt8))) else (if a0.toList = ([98, 111, 111, 108] : List UInt8) then (selfstabref04_Reserved.j0 k a0 (a0.toList == ([98, 111, 111, 108] : List UInt8))) else (if a0.toList = ([112, 111, 114, 116] : List UInt8) then (selfstabref04_Reserved.j0 k a0 (a0.toList == ([112, 111, 114, 116] : List UInt8))) else (if a0.toList = ([116, 114, 117, 101] : List UInt8) then (selfstabref04_Reserved.j0 k a0 (a0.toList == ([116, 114, 117, 101] : List UInt8))) else (if a0.toList = ([102, 97, 108, 115, 101] : List UInt8) then (selfstabref04_Reserved.j0 k a0 (a0.toList == ([102, 97, 108, 115, 101] : List UInt8))) else (if a0.toList = ([110, 111, 110, 101] : List UInt8) then (selfstabref04_Reserved.j0 k a0 (a0.toList == ([110, 111, 110, 101] : List UInt8))) else (if a0.toList = ([110] : List UInt8) then (selfstabref04_Reserved.j0 k a0 (a0.toList == ([110] : List UInt8))) else (if a0.toList = ([105, 100, 115] : List UInt8) then (selfstabref04_Reserved.j0 k a0 (a0.toList == ([105, 100, 115] : List UInt8))) else (if a0.toList = ([105, 100] : List UInt8) then (selfstabref04_Reserved.j0 k a0 (a0.toList == ([105, 100] : List UInt8))) else (if a0.toList = ([100, 101, 103] : List UInt8) then (selfstabref04_Reserved.j0 k a0 (a0.toList == ([100, 101, 103] : List UInt8))) else (if a0.toList = ([114, 111, 111, 116] : List UInt8) then (selfstabref04_Reserved.j0 k a0 (a0.toList == ([114, 111, 111, 116] : List UInt8))) else (if a0.toList = ([113] : List UInt8) then (selfstabref04_Reserved.j0 k a0 (a0.toList == ([113] : List UInt8))) else (if a0.toList = ([119, 101, 105, 103, 104, 116] : List UInt8) then (selfstabref04_Reserved.j0 k a0 (a0.toList == ([119, 101, 105, 103, 104, 116] : List UInt8))) else (selfstabref04_Reserved.j0 k a0 (a0.toList == ([98, 97, 99, 107] : List UInt8)))))))))))))))))
theorem selfstabref04_Reserved.mono_l : ∀ k, (∀ y0 y1, LeO (selfstabref04_Reserved.j0 k y0 y1) (selfstabref04_Reserved.j0 (k + 1) y0 y1)) ∧ (∀ y0, LeO (selfstabref04_Reserved.j1 k y0) (selfstabref04_Reserved.j1 (k + 1) y0))
  | 0 => ⟨fun _ _ r h => by simp [selfstabref04_Reserved.j0] at h, fun _ r h => by simp [selfstabref04_Reserved.j1] at h⟩
  | k + 1 => by
    obtain ⟨ih0, ih1⟩ := selfstabref04_Reserved.mono_l k
    refine ⟨?_, ?_⟩
    · intro y0 y1
      unfold selfstabref04_Reserved.j0
      repeat' first
      | (with_reducible exact ih0 _ _)
      | (with_reducible exact ih1 _)
      | (with_reducible exact LeO.refl _)
      | (with_reducible exact LeO.none _)
      | (with_reducible refine LeO.ite ?_ ?_)
      | (with_reducible refine LeO.bind ?_ (fun _ => ?_))
      | exact ih0 _ _
      | exact ih1 _
      | exact LeO.none _
      | refine LeO.ite ?_ ?_
      | refine LeO.bind ?_ (fun _ => ?_)
    · intro y0
      unfold selfstabref04_Reserved.j1
      repeat' first
      | (with_reducible exact ih0 _ _)
      | (with_reducible exact ih1 _)
      | (with_reducible exact LeO.refl _)
      | (with_reducible exact LeO.none _)
      | (with_reducible refine LeO.ite ?_ ?_)
      | (with_reducible refine LeO.bind ?_ (fun _ => ?_))
      | exact ih0 _ _
      | exact ih1 _
      | exact LeO.none _
      | refine LeO.ite ?_ ?_
      | refine LeO.bind ?_ (fun _ => ?_)
theorem selfstabref04_Reserved.mono : ∀ a0 k, LeO (selfstabref04_Reserved.f k a0) (selfstabref04_Reserved.f (k + 1) a0) := by
  intro a0 k
  obtain ⟨ih0, ih1⟩ := selfstabref04_Reserved.mono_l k
  unfold selfstabref04_Reserved.f
  repeat' first
      | (with_reducible exact ih0 _ _)
      | (with_reducible exact ih1 _)
      | (with_reducible exact LeO.refl _)
      | (with_reducible exact LeO.none _)
      | (with_reducible refine LeO.ite ?_ ?_)
      | (with_reducible refine LeO.bind ?_ (fun _ => ?_))
      | exact ih0 _ _
      | exact ih1 _
      | exact LeO.none _
      | refine LeO.ite ?_ ?_
      | refine LeO.bind ?_ (fun _ => ?_)
set_option maxHeartbeats 6000000 in
set_option maxRecDepth 100000 in
theorem selfstabref04_Reserved.calls (k : Nat) (a0 : ByteArray) (r : Bool) (w : World) (h : selfstabref04_Reserved.f k a0 = some r) :
    Calls Try.prog 18 #[.string a0] w fun e w' => e = .returned (.bool r) ∧ Drawn0 w w' := by
  have H : (if a0.toList = ([112, 114, 111, 103, 114, 97, 109] : List UInt8) then (selfstabref04_Reserved.j0 k a0 (a0.toList == ([112, 114, 111, 103, 114, 97, 109] : List UInt8))) else (if a0.toList = ([118, 97, 114] : List UInt8) then (selfstabref04_Reserved.j0 k a0 (a0.toList == ([118, 97, 114] : List UInt8))) else (if a0.toList = ([114, 117, 108, 101] : List UInt8) then (selfstabref04_Reserved.j0 k a0 (a0.toList == ([114, 117, 108, 101] : List UInt8))) else (if a0.toList = ([98, 111, 111, 108] : List UInt8) then (selfstabref04_Reserved.j0 k a0 (a0.toList == ([98, 111, 111, 108] : List UInt8))) else (if a0.toList = ([112, 111, 114, 116] : List UInt8) then (selfstabref04_Reserved.j0 k a0 (a0.toList == ([112, 111, 114, 116] : List UInt8))) else (if a0.toList = ([116, 114, 117, 101] : List UInt8) then (selfstabref04_Reserved.j0 k a0 (a0.toList == ([116, 114, 117, 101] : List UInt8))) else (if a0.toList = ([102, 97, 108, 115, 101] : List UInt8) then (selfstabref04_Reserved.j0 k a0 (a0.toList == ([102, 97, 108, 115, 101] : List UInt8))) else (if a0.toList = ([110, 111, 110, 101] : List UInt8) then (selfstabref04_Reserved.j0 k a0 (a0.toList == ([110, 111, 110, 101] : List UInt8))) else (if a0.toList = ([110] : List UInt8) then (selfstabref04_Reserved.j0 k a0 (a0.toList == ([110] : List UInt8))) else (if a0.toList = ([105, 100, 115] : List UInt8) then (selfstabref04_Reserved.j0 k a0 (a0.toList == ([105, 100, 115] : List UInt8))) else (if a0.toList = ([105, 100] : List UInt8) then (selfstabref04_Reserved.j0 k a0 (a0.toList == ([105, 100] : List UInt8))) else (if a0.toList = ([100, 101, 103] : List UInt8) then (selfstabref04_Reserved.j0 k a0 (a0.toList == ([100, 101, 103] : List UInt8))) else (if a0.toList = ([114, 111, 111, 116] : List UInt8) then (selfstabref04_Reserved.j0 k a0 (a0.toList == ([114, 111, 111, 116] : List UInt8))) else (if a0.toList = ([113] : List UInt8) then (selfstabref04_Reserved.j0 k a0 (a0.toList == ([113] : List UInt8))) else (if a0.toList = ([119, 101, 105, 103, 104, 116] : List UInt8) then (selfstabref04_Reserved.j0 k a0 (a0.toList == ([119, 101, 105, 103, 104, 116] : List UInt8))) else (selfstabref04_Reserved.j0 k a0 (a0.toList == ([98, 97, 99, 107] : List UInt8)))))))))))))))))) = some r := h
  clear h
  have HC2 := Aside0.mk H
  clear H
  go_enter Try.func18, Try.ntmps18
  go_upto_if 4 with (fail)
  go_cut [4] (fun v4 wc => ∃ (kq : Nat) (x4_1 : Bool), v4 = .bool x4_1 ∧ Aside0 (selfstabref04_Reserved.j0 kq a0 x4_1 = some r) ∧ Aside0 (kq ≤ k) ∧ Drawn0 w wc)
  case first =>
    have H := HC2.out
    clear HC2
    by_cases c3 : a0.toList = ([112, 114, 111, 103, 114, 97, 109] : List UInt8)
    · rw [if_pos c3] at H
      have c3b0 : (a0.toList == ([112, 114, 111, 103, 114, 97, 109] : List UInt8)) = true := beq_iff_eq.mpr c3
      have c3b1 : (a0.toList != ([112, 114, 111, 103, 114, 97, 109] : List UInt8)) = false := bne_eq_false_iff_eq.mpr c3
      clear c3
      (first | rw [c3b0] | (simp only [i64_w, i32_w]; rw [c3b0]) | skip)
      have H' := Aside0.mk H
      clear H
      go_wp2
      go_meet
      case rel => exact ⟨_, ((a0.toList == ([112, 114, 111, 103, 114, 97, 109] : List UInt8))), (by first | rfl | (simp; done) | (simp [*]; done)), H', ⟨by first | omega | exact Nat.le_refl _⟩, by repeat (first | exact Drawn0.refl _ | apply Drawn0.step)⟩
    · rw [if_neg c3] at H
      have c3b0 : (a0.toList == ([112, 114, 111, 103, 114, 97, 109] : List UInt8)) = false := beq_eq_false_iff_ne.mpr c3
      have c3b1 : (a0.toList != ([112, 114, 111, 103, 114, 97, 109] : List UInt8)) = true := bne_iff_ne.mpr c3
      (first | rw [c3b0] | (simp only [i64_w, i32_w]; rw [c3b0]) | skip)
      by_cases c4 : a0.toList = ([118, 97, 114] : List UInt8)
      · rw [if_pos c4] at H
        have c4b0 : (a0.toList == ([118, 97, 114] : List UInt8)) = true := beq_iff_eq.mpr c4
        have c4b1 : (a0.toList != ([118, 97, 114] : List UInt8)) = false := bne_eq_false_iff_eq.mpr c4
        clear c4
        have H' := Aside0.mk H
        clear H
        go_wp2
        go_meet
        case rel => exact ⟨_, ((a0.toList == ([118, 97, 114] : List UInt8))), (by first | rfl | (simp; done) | (simp [*]; done)), H', ⟨by first | omega | exact Nat.le_refl _⟩, by repeat (first | exact Drawn0.refl _ | apply Drawn0.step)⟩
      · rw [if_neg c4] at H
        have c4b0 : (a0.toList == ([118, 97, 114] : List UInt8)) = false := beq_eq_false_iff_ne.mpr c4
        have c4b1 : (a0.toList != ([118, 97, 114] : List UInt8)) = true := bne_iff_ne.mpr c4
        by_cases c5 : a0.toList = ([114, 117, 108, 101] : List UInt8)
        · rw [if_pos c5] at H
          have c5b0 : (a0.toList == ([114, 117, 108, 101] : List UInt8)) = true := beq_iff_eq.mpr c5
          have c5b1 : (a0.toList != ([114, 117, 108, 101] : List UInt8)) = false := bne_eq_false_iff_eq.mpr c5
          clear c5
          have H' := Aside0.mk H
          clear H
          go_wp2
          go_meet
          case rel => exact ⟨_, ((a0.toList == ([114, 117, 108, 101] : List UInt8))), (by first | rfl | (simp; done) | (simp [*]; done)), H', ⟨by first | omega | exact Nat.le_refl _⟩, by repeat (first | exact Drawn0.refl _ | apply Drawn0.step)⟩
        · rw [if_neg c5] at H
          have c5b0 : (a0.toList == ([114, 117, 108, 101] : List UInt8)) = false := beq_eq_false_iff_ne.mpr c5
          have c5b1 : (a0.toList != ([114, 117, 108, 101] : List UInt8)) = true := bne_iff_ne.mpr c5
          by_cases c6 : a0.toList = ([98, 111, 111, 108] : List UInt8)
          · rw [if_pos c6] at H
            have c6b0 : (a0.toList == ([98, 111, 111, 108] : List UInt8)) = true := beq_iff_eq.mpr c6
            have c6b1 : (a0.toList != ([98, 111, 111, 108] : List UInt8)) = false := bne_eq_false_iff_eq.mpr c6
            clear c6
            have H' := Aside0.mk H
            clear H
            go_wp2
            go_meet
            case rel => exact ⟨_, ((a0.toList == ([98, 111, 111, 108] : List UInt8))), (by first | rfl | (simp; done) | (simp [*]; done)), H', ⟨by first | omega | exact Nat.le_refl _⟩, by repeat (first | exact Drawn0.refl _ | apply Drawn0.step)⟩
          · rw [if_neg c6] at H
            have c6b0 : (a0.toList == ([98, 111, 111, 108] : List UInt8)) = false := beq_eq_false_iff_ne.mpr c6
            have c6b1 : (a0.toList != ([98, 111, 111, 108] : List UInt8)) = true := bne_iff_ne.mpr c6
            by_cases c7 : a0.toList = ([112, 111, 114, 116] : List UInt8)
            · rw [if_pos c7] at H
              have c7b0 : (a0.toList == ([112, 111, 114, 116] : List UInt8)) = true := beq_iff_eq.mpr c7
              have c7b1 : (a0.toList != ([112, 111, 114, 116] : List UInt8)) = false := bne_eq_false_iff_eq.mpr c7
              clear c7
              have H' := Aside0.mk H
              clear H
              go_wp2
              go_meet
              case rel => exact ⟨_, ((a0.toList == ([112, 111, 114, 116] : List UInt8))), (by first | rfl | (simp; done) | (simp [*]; done)), H', ⟨by first | omega | exact Nat.le_refl _⟩, by repeat (first | exact Drawn0.refl _ | apply Drawn0.step)⟩
            · rw [if_neg c7] at H
              have c7b0 : (a0.toList == ([112, 111, 114, 116] : List UInt8)) = false := beq_eq_false_iff_ne.mpr c7
              have c7b1 : (a0.toList != ([112, 111, 114, 116] : List UInt8)) = true := bne_iff_ne.mpr c7
              by_cases c8 : a0.toList = ([116, 114, 117, 101] : List UInt8)
              · rw [if_pos c8] at H
                have c8b0 : (a0.toList == ([116, 114, 117, 101] : List UInt8)) = true := beq_iff_eq.mpr c8
                have c8b1 : (a0.toList != ([116, 114, 117, 101] : List UInt8)) = false := bne_eq_false_iff_eq.mpr c8
                clear c8
                have H' := Aside0.mk H
                clear H
                go_wp2
                go_meet
                case rel => exact ⟨_, ((a0.toList == ([116, 114, 117, 101] : List UInt8))), (by first | rfl | (simp; done) | (simp [*]; done)), H', ⟨by first | omega | exact Nat.le_refl _⟩, by repeat (first | exact Drawn0.refl _ | apply Drawn0.step)⟩
              · rw [if_neg c8] at H
                have c8b0 : (a0.toList == ([116, 114, 117, 101] : List UInt8)) = false := beq_eq_false_iff_ne.mpr c8
                have c8b1 : (a0.toList != ([116, 114, 117, 101] : List UInt8)) = true := bne_iff_ne.mpr c8
                by_cases c9 : a0.toList = ([102, 97, 108, 115, 101] : List UInt8)
                · rw [if_pos c9] at H
                  have c9b0 : (a0.toList == ([102, 97, 108, 115, 101] : List UInt8)) = true := beq_iff_eq.mpr c9
                  have c9b1 : (a0.toList != ([102, 97, 108, 115, 101] : List UInt8)) = false := bne_eq_false_iff_eq.mpr c9
                  clear c9
                  have H' := Aside0.mk H
                  clear H
                  go_wp2
                  go_meet
                  case rel => exact ⟨_, ((a0.toList == ([102, 97, 108, 115, 101] : List UInt8))), (by first | rfl | (simp; done) | (simp [*]; done)), H', ⟨by first | omega | exact Nat.le_refl _⟩, by repeat (first | exact Drawn0.refl _ | apply Drawn0.step)⟩
                · rw [if_neg c9] at H
                  have c9b0 : (a0.toList == ([102, 97, 108, 115, 101] : List UInt8)) = false := beq_eq_false_iff_ne.mpr c9
                  have c9b1 : (a0.toList != ([102, 97, 108, 115, 101] : List UInt8)) = true := bne_iff_ne.mpr c9
                  by_cases c10 : a0.toList = ([110, 111, 110, 101] : List UInt8)
                  · rw [if_pos c10] at H
                    have c10b0 : (a0.toList == ([110, 111, 110, 101] : List UInt8)) = true := beq_iff_eq.mpr c10
                    have c10b1 : (a0.toList != ([110, 111, 110, 101] : List UInt8)) = false := bne_eq_false_iff_eq.mpr c10
                    clear c10
                    have H' := Aside0.mk H
                    clear H
                    go_wp2
                    go_meet
                    case rel => exact ⟨_, ((a0.toList == ([110, 111, 110, 101] : List UInt8))), (by first | rfl | (simp; done) | (simp [*]; done)), H', ⟨by first | omega | exact Nat.le_refl _⟩, by repeat (first | exact Drawn0.refl _ | apply Drawn0.step)⟩
                  · rw [if_neg c10] at H
                    have c10b0 : (a0.toList == ([110, 111, 110, 101] : List UInt8)) = false := beq_eq_false_iff_ne.mpr c10
                    have c10b1 : (a0.toList != ([110, 111, 110, 101] : List UInt8)) = true := bne_iff_ne.mpr c10
                    by_cases c11 : a0.toList = ([110] : List UInt8)
                    · rw [if_pos c11] at H
                      have c11b0 : (a0.toList == ([110] : List UInt8)) = true := beq_iff_eq.mpr c11
                      have c11b1 : (a0.toList != ([110] : List UInt8)) = false := bne_eq_false_iff_eq.mpr c11
                      clear c11
                      have H' := Aside0.mk H
                      clear H
                      go_wp2
                      go_meet
                      case rel => exact ⟨_, ((a0.toList == ([110] : List UInt8))), (by first | rfl | (simp; done) | (simp [*]; done)), H', ⟨by first | omega | exact Nat.le_refl _⟩, by repeat (first | exact Drawn0.refl _ | apply Drawn0.step)⟩
                    · rw [if_neg c11] at H
                      have c11b0 : (a0.toList == ([110] : List UInt8)) = false := beq_eq_false_iff_ne.mpr c11
                      have c11b1 : (a0.toList != ([110] : List UInt8)) = true := bne_iff_ne.mpr c11
                      by_cases c12 : a0.toList = ([105, 100, 115] : List UInt8)
                      · rw [if_pos c12] at H
                        have c12b0 : (a0.toList == ([105, 100, 115] : List UInt8)) = true := beq_iff_eq.mpr c12
                        have c12b1 : (a0.toList != ([105, 100, 115] : List UInt8)) = false := bne_eq_false_iff_eq.mpr c12
                        clear c12
                        have H' := Aside0.mk H
                        clear H
                        go_wp2
                        go_meet
                        case rel => exact ⟨_, ((a0.toList == ([105, 100, 115] : List UInt8))), (by first | rfl | (simp; done) | (simp [*]; done)), H', ⟨by first | omega | exact Nat.le_refl _⟩, by repeat (first | exact Drawn0.refl _ | apply Drawn0.step)⟩
                      · rw [if_neg c12] at H
                        have c12b0 : (a0.toList == ([105, 100, 115] : List UInt8)) = false := beq_eq_false_iff_ne.mpr c12
                        have c12b1 : (a0.toList != ([105, 100, 115] : List UInt8)) = true := bne_iff_ne.mpr c12
                        by_cases c13 : a0.toList = ([105, 100] : List UInt8)
                        · rw [if_pos c13] at H
                          have c13b0 : (a0.toList == ([105, 100] : List UInt8)) = true := beq_iff_eq.mpr c13
                          have c13b1 : (a0.toList != ([105, 100] : List UInt8)) = false := bne_eq_false_iff_eq.mpr c13
                          clear c13
                          have H' := Aside0.mk H
                          clear H
                          go_wp2
                          go_meet
                          case rel => exact ⟨_, ((a0.toList == ([105, 100] : List UInt8))), (by first | rfl | (simp; done) | (simp [*]; done)), H', ⟨by first | omega | exact Nat.le_refl _⟩, by repeat (first | exact Drawn0.refl _ | apply Drawn0.step)⟩
                        · rw [if_neg c13] at H
                          have c13b0 : (a0.toList == ([105, 100] : List UInt8)) = false := beq_eq_false_iff_ne.mpr c13
                          have c13b1 : (a0.toList != ([105, 100] : List UInt8)) = true := bne_iff_ne.mpr c13
                          by_cases c14 : a0.toList = ([100, 101, 103] : List UInt8)
                          · rw [if_pos c14] at H
                            have c14b0 : (a0.toList == ([100, 101, 103] : List UInt8)) = true := beq_iff_eq.mpr c14
                            have c14b1 : (a0.toList != ([100, 101, 103] : List UInt8)) = false := bne_eq_false_iff_eq.mpr c14
                            clear c14
                            have H' := Aside0.mk H
                            clear H
                            go_wp2
                            go_meet
                            case rel => exact ⟨_, ((a0.toList == ([100, 101, 103] : List UInt8))), (by first | rfl | (simp; done) | (simp [*]; done)), H', ⟨by first | omega | exact Nat.le_refl _⟩, by repeat (first | exact Drawn0.refl _ | apply Drawn0.step)⟩
                          · rw [if_neg c14] at H
                            have c14b0 : (a0.toList == ([100, 101, 103] : List UInt8)) = false := beq_eq_false_iff_ne.mpr c14
                            have c14b1 : (a0.toList != ([100, 101, 103] : List UInt8)) = true := bne_iff_ne.mpr c14
                            by_cases c15 : a0.toList = ([114, 111, 111, 116] : List UInt8)
                            · rw [if_pos c15] at H
                              have c15b0 : (a0.toList == ([114, 111, 111, 116] : List UInt8)) = true := beq_iff_eq.mpr c15
                              have c15b1 : (a0.toList != ([114, 111, 111, 116] : List UInt8)) = false := bne_eq_false_iff_eq.mpr c15
                              clear c15
                              have H' := Aside0.mk H
                              clear H
                              go_wp2
                              go_meet
                              case rel => exact ⟨_, ((a0.toList == ([114, 111, 111, 116] : List UInt8))), (by first | rfl | (simp; done) | (simp [*]; done)), H', ⟨by first | omega | exact Nat.le_refl _⟩, by repeat (first | exact Drawn0.refl _ | apply Drawn0.step)⟩
                            · rw [if_neg c15] at H
                              have c15b0 : (a0.toList == ([114, 111, 111, 116] : List UInt8)) = false := beq_eq_false_iff_ne.mpr c15
                              have c15b1 : (a0.toList != ([114, 111, 111, 116] : List UInt8)) = true := bne_iff_ne.mpr c15
                              by_cases c16 : a0.toList = ([113] : List UInt8)
                              · rw [if_pos c16] at H
                                have c16b0 : (a0.toList == ([113] : List UInt8)) = true := beq_iff_eq.mpr c16
                                have c16b1 : (a0.toList != ([113] : List UInt8)) = false := bne_eq_false_iff_eq.mpr c16
                                clear c16
                                have H' := Aside0.mk H
                                clear H
                                go_wp2
                                go_meet
                                case rel => exact ⟨_, ((a0.toList == ([113] : List UInt8))), (by first | rfl | (simp; done) | (simp [*]; done)), H', ⟨by first | omega | exact Nat.le_refl _⟩, by repeat (first | exact Drawn0.refl _ | apply Drawn0.step)⟩
                              · rw [if_neg c16] at H
                                have c16b0 : (a0.toList == ([113] : List UInt8)) = false := beq_eq_false_iff_ne.mpr c16
                                have c16b1 : (a0.toList != ([113] : List UInt8)) = true := bne_iff_ne.mpr c16
                                by_cases c17 : a0.toList = ([119, 101, 105, 103, 104, 116] : List UInt8)
                                · rw [if_pos c17] at H
                                  have c17b0 : (a0.toList == ([119, 101, 105, 103, 104, 116] : List UInt8)) = true := beq_iff_eq.mpr c17
                                  have c17b1 : (a0.toList != ([119, 101, 105, 103, 104, 116] : List UInt8)) = false := bne_eq_false_iff_eq.mpr c17
                                  clear c17
                                  have H' := Aside0.mk H
                                  clear H
                                  go_wp2
                                  go_meet
                                  case rel => exact ⟨_, ((a0.toList == ([119, 101, 105, 103, 104, 116] : List UInt8))), (by first | rfl | (simp; done) | (simp [*]; done)), H', ⟨by first | omega | exact Nat.le_refl _⟩, by repeat (first | exact Drawn0.refl _ | apply Drawn0.step)⟩
                                · rw [if_neg c17] at H
                                  have c17b0 : (a0.toList == ([119, 101, 105, 103, 104, 116] : List UInt8)) = false := beq_eq_false_iff_ne.mpr c17
                                  have c17b1 : (a0.toList != ([119, 101, 105, 103, 104, 116] : List UInt8)) = true := bne_iff_ne.mpr c17
                                  have H' := Aside0.mk H
                                  clear H
                                  go_wp2
                                  go_meet
                                  case rel => exact ⟨_, ((a0.toList == ([98, 97, 99, 107] : List UInt8))), (by first | rfl | (simp; done) | (simp [*]; done)), H', ⟨by first | omega | exact Nat.le_refl _⟩, by repeat (first | exact Drawn0.refl _ | apply Drawn0.step)⟩
  case rest =>
    clear HC2
    try clear c1
    try clear p2
    try clear c3
    try clear c3b0
    try clear c3b1
    try clear c4
    try clear c4b0
    try clear c4b1
    try clear c5
    try clear c5b0
    try clear c5b1
    try clear c6
    try clear c6b0
    try clear c6b1
    try clear c7
    try clear c7b0
    try clear c7b1
    try clear c8
    try clear c8b0
    try clear c8b1
    try clear c9
    try clear c9b0
    try clear c9b1
    try clear c10
    try clear c10b0
    try clear c10b1
    try clear c11
    try clear c11b0
    try clear c11b1
    try clear c12
    try clear c12b0
    try clear c12b1
    try clear c13
    try clear c13b0
    try clear c13b1
    try clear c14
    try clear c14b0
    try clear c14b1
    try clear c15
    try clear c15b0
    try clear c15b1
    try clear c16
    try clear c16b0
    try clear c16b1
    try clear c17
    try clear c17b0
    try clear c17b1
    obtain ⟨kq, x4_1, rfl, HA, HJ1, ⟨mc1, rfl⟩⟩ := hcut
    cases kq with
    | zero => exact absurd HA.out (by simp [selfstabref04_Reserved.j0])
    | succ kj1 =>
      have H := HA.out
      clear HA
      simp only [selfstabref04_Reserved.j0] at H
      by_cases c18 : x4_1 = true
      · subst c18
        have H1 : (some true) = some r := by rw [if_pos rfl] at H; exact H
        clear H
        have H := H1
        clear H1
        obtain rfl := Option.some.inj H
        go_wp2
        go_ret
        exact ⟨by first | rfl | (simp; done) | (simp [*]; done), by repeat (first | exact Drawn0.refl _ | apply Drawn0.step)⟩
      · replace c18 := Bool.eq_false_iff.mpr c18
        subst c18
        have H1 : (if a0.toList = ([97, 108, 108] : List UInt8) then (selfstabref04_Reserved.j1 kj1 (a0.toList == ([97, 108, 108] : List UInt8))) else (if a0.toList = ([115, 111, 109, 101] : List UInt8) then (selfstabref04_Reserved.j1 kj1 (a0.toList == ([115, 111, 109, 101] : List UInt8))) else (if a0.toList = ([99, 111, 117, 110, 116] : List UInt8) then (selfstabref04_Reserved.j1 kj1 (a0.toList == ([99, 111, 117, 110, 116] : List UInt8))) else (if a0.toList = ([102, 105, 114, 115, 116] : List UInt8) then (selfstabref04_Reserved.j1 kj1 (a0.toList == ([102, 105, 114, 115, 116] : List UInt8))) else (if a0.toList = ([109, 105, 110] : List UInt8) then (selfstabref04_Reserved.j1 kj1 (a0.toList == ([109, 105, 110] : List UInt8))) else (if a0.toList = ([109, 97, 120] : List UInt8) then (selfstabref04_Reserved.j1 kj1 (a0.toList == ([109, 97, 120] : List UInt8))) else (if a0.toList = ([115, 117, 109] : List UInt8) then (selfstabref04_Reserved.j1 kj1 (a0.toList == ([115, 117, 109] : List UInt8))) else (if a0.toList = ([109, 101, 120] : List UInt8) then (selfstabref04_Reserved.j1 kj1 (a0.toList == ([109, 101, 120] : List UInt8))) else (if a0.toList = ([115, 101, 99, 111, 110, 100] : List UInt8) then (selfstabref04_Reserved.j1 kj1 (a0.toList == ([115, 101, 99, 111, 110, 100] : List UInt8))) else (selfstabref04_Reserved.j1 kj1 (a0.toList == ([104, 101, 97, 100] : List UInt8)))))))))))) = some r := by rw [if_neg (show ¬ (false = true) by decide)] at H; exact H
        clear H
        have H := H1
        clear H1
        have HC19 := Aside0.mk H
        clear H
        go_upto_if 21 with (fail)
        go_cut [21] (fun v21 wc => ∃ (kq : Nat) (x21_18 : Bool), v21 = .bool x21_18 ∧ Aside0 (selfstabref04_Reserved.j1 kq x21_18 = some r) ∧ Aside0 (kq ≤ kj1) ∧ Drawn0 w wc)
        case first =>
          have H := HC19.out
          clear HC19
          by_cases c20 : a0.toList = ([97, 108, 108] : List UInt8)
          · rw [if_pos c20] at H
            have c20b0 : (a0.toList == ([97, 108, 108] : List UInt8)) = true := beq_iff_eq.mpr c20
            have c20b1 : (a0.toList != ([97, 108, 108] : List UInt8)) = false := bne_eq_false_iff_eq.mpr c20
            clear c20
            (first | rw [c20b0] | (simp only [i64_w, i32_w]; rw [c20b0]) | skip)
            have H' := Aside0.mk H
            clear H
            go_wp2
            go_meet
            case rel => exact ⟨_, ((a0.toList == ([97, 108, 108] : List UInt8))), (by first | rfl | (simp; done) | (simp [*]; done)), H', ⟨by have := HJ1.out; first | omega | exact Nat.le_refl _⟩, by repeat (first | exact Drawn0.refl _ | apply Drawn0.step)⟩
          · rw [if_neg c20] at H
            have c20b0 : (a0.toList == ([97, 108, 108] : List UInt8)) = false := beq_eq_false_iff_ne.mpr c20
            have c20b1 : (a0.toList != ([97, 108, 108] : List UInt8)) = true := bne_iff_ne.mpr c20
            (first | rw [c20b0] | (simp only [i64_w, i32_w]; rw [c20b0]) | skip)
            by_cases c21 : a0.toList = ([115, 111, 109, 101] : List UInt8)
            · rw [if_pos c21] at H
              have c21b0 : (a0.toList == ([115, 111, 109, 101] : List UInt8)) = true := beq_iff_eq.mpr c21
              have c21b1 : (a0.toList != ([115, 111, 109, 101] : List UInt8)) = false := bne_eq_false_iff_eq.mpr c21
              clear c21
              have H' := Aside0.mk H
              clear H
              go_wp2
              go_meet
              case rel => exact ⟨_, ((a0.toList == ([115, 111, 109, 101] : List UInt8))), (by first | rfl | (simp; done) | (simp [*]; done)), H', ⟨by have := HJ1.out; first | omega | exact Nat.le_refl _⟩, by repeat (first | exact Drawn0.refl _ | apply Drawn0.step)⟩
            · rw [if_neg c21] at H
              have c21b0 : (a0.toList == ([115, 111, 109, 101] : List UInt8)) = false := beq_eq_false_iff_ne.mpr c21
              have c21b1 : (a0.toList != ([115, 111, 109, 101] : List UInt8)) = true := bne_iff_ne.mpr c21
              by_cases c22 : a0.toList = ([99, 111, 117, 110, 116] : List UInt8)
              · rw [if_pos c22] at H
                have c22b0 : (a0.toList == ([99, 111, 117, 110, 116] : List UInt8)) = true := beq_iff_eq.mpr c22
                have c22b1 : (a0.toList != ([99, 111, 117, 110, 116] : List UInt8)) = false := bne_eq_false_iff_eq.mpr c22
                clear c22
                have H' := Aside0.mk H
                clear H
                go_wp2
                go_meet
                case rel => exact ⟨_, ((a0.toList == ([99, 111, 117, 110, 116] : List UInt8))), (by first | rfl | (simp; done) | (simp [*]; done)), H', ⟨by have := HJ1.out; first | omega | exact Nat.le_refl _⟩, by repeat (first | exact Drawn0.refl _ | apply Drawn0.step)⟩
              · rw [if_neg c22] at H
                have c22b0 : (a0.toList == ([99, 111, 117, 110, 116] : List UInt8)) = false := beq_eq_false_iff_ne.mpr c22
                have c22b1 : (a0.toList != ([99, 111, 117, 110, 116] : List UInt8)) = true := bne_iff_ne.mpr c22
                by_cases c23 : a0.toList = ([102, 105, 114, 115, 116] : List UInt8)
                · rw [if_pos c23] at H
                  have c23b0 : (a0.toList == ([102, 105, 114, 115, 116] : List UInt8)) = true := beq_iff_eq.mpr c23
                  have c23b1 : (a0.toList != ([102, 105, 114, 115, 116] : List UInt8)) = false := bne_eq_false_iff_eq.mpr c23
                  clear c23
                  have H' := Aside0.mk H
                  clear H
                  go_wp2
                  go_meet
                  case rel => exact ⟨_, ((a0.toList == ([102, 105, 114, 115, 116] : List UInt8))), (by first | rfl | (simp; done) | (simp [*]; done)), H', ⟨by have := HJ1.out; first | omega | exact Nat.le_refl _⟩, by repeat (first | exact Drawn0.refl _ | apply Drawn0.step)⟩
                · rw [if_neg c23] at H
                  have c23b0 : (a0.toList == ([102, 105, 114, 115, 116] : List UInt8)) = false := beq_eq_false_iff_ne.mpr c23
                  have c23b1 : (a0.toList != ([102, 105, 114, 115, 116] : List UInt8)) = true := bne_iff_ne.mpr c23
                  by_cases c24 : a0.toList = ([109, 105, 110] : List UInt8)
                  · rw [if_pos c24] at H
                    have c24b0 : (a0.toList == ([109, 105, 110] : List UInt8)) = true := beq_iff_eq.mpr c24
                    have c24b1 : (a0.toList != ([109, 105, 110] : List UInt8)) = false := bne_eq_false_iff_eq.mpr c24
                    clear c24
                    have H' := Aside0.mk H
                    clear H
                    go_wp2
                    go_meet
                    case rel => exact ⟨_, ((a0.toList == ([109, 105, 110] : List UInt8))), (by first | rfl | (simp; done) | (simp [*]; done)), H', ⟨by have := HJ1.out; first | omega | exact Nat.le_refl _⟩, by repeat (first | exact Drawn0.refl _ | apply Drawn0.step)⟩
                  · rw [if_neg c24] at H
                    have c24b0 : (a0.toList == ([109, 105, 110] : List UInt8)) = false := beq_eq_false_iff_ne.mpr c24
                    have c24b1 : (a0.toList != ([109, 105, 110] : List UInt8)) = true := bne_iff_ne.mpr c24
                    by_cases c25 : a0.toList = ([109, 97, 120] : List UInt8)
                    · rw [if_pos c25] at H
                      have c25b0 : (a0.toList == ([109, 97, 120] : List UInt8)) = true := beq_iff_eq.mpr c25
                      have c25b1 : (a0.toList != ([109, 97, 120] : List UInt8)) = false := bne_eq_false_iff_eq.mpr c25
                      clear c25
                      have H' := Aside0.mk H
                      clear H
                      go_wp2
                      go_meet
                      case rel => exact ⟨_, ((a0.toList == ([109, 97, 120] : List UInt8))), (by first | rfl | (simp; done) | (simp [*]; done)), H', ⟨by have := HJ1.out; first | omega | exact Nat.le_refl _⟩, by repeat (first | exact Drawn0.refl _ | apply Drawn0.step)⟩
                    · rw [if_neg c25] at H
                      have c25b0 : (a0.toList == ([109, 97, 120] : List UInt8)) = false := beq_eq_false_iff_ne.mpr c25
                      have c25b1 : (a0.toList != ([109, 97, 120] : List UInt8)) = true := bne_iff_ne.mpr c25
                      by_cases c26 : a0.toList = ([115, 117, 109] : List UInt8)
                      · rw [if_pos c26] at H
                        have c26b0 : (a0.toList == ([115, 117, 109] : List UInt8)) = true := beq_iff_eq.mpr c26
                        have c26b1 : (a0.toList != ([115, 117, 109] : List UInt8)) = false := bne_eq_false_iff_eq.mpr c26
                        clear c26
                        have H' := Aside0.mk H
                        clear H
                        go_wp2
                        go_meet
                        case rel => exact ⟨_, ((a0.toList == ([115, 117, 109] : List UInt8))), (by first | rfl | (simp; done) | (simp [*]; done)), H', ⟨by have := HJ1.out; first | omega | exact Nat.le_refl _⟩, by repeat (first | exact Drawn0.refl _ | apply Drawn0.step)⟩
                      · rw [if_neg c26] at H
                        have c26b0 : (a0.toList == ([115, 117, 109] : List UInt8)) = false := beq_eq_false_iff_ne.mpr c26
                        have c26b1 : (a0.toList != ([115, 117, 109] : List UInt8)) = true := bne_iff_ne.mpr c26
                        by_cases c27 : a0.toList = ([109, 101, 120] : List UInt8)
                        · rw [if_pos c27] at H
                          have c27b0 : (a0.toList == ([109, 101, 120] : List UInt8)) = true := beq_iff_eq.mpr c27
                          have c27b1 : (a0.toList != ([109, 101, 120] : List UInt8)) = false := bne_eq_false_iff_eq.mpr c27
                          clear c27
                          have H' := Aside0.mk H
                          clear H
                          go_wp2
                          go_meet
                          case rel => exact ⟨_, ((a0.toList == ([109, 101, 120] : List UInt8))), (by first | rfl | (simp; done) | (simp [*]; done)), H', ⟨by have := HJ1.out; first | omega | exact Nat.le_refl _⟩, by repeat (first | exact Drawn0.refl _ | apply Drawn0.step)⟩
                        · rw [if_neg c27] at H
                          have c27b0 : (a0.toList == ([109, 101, 120] : List UInt8)) = false := beq_eq_false_iff_ne.mpr c27
                          have c27b1 : (a0.toList != ([109, 101, 120] : List UInt8)) = true := bne_iff_ne.mpr c27
                          by_cases c28 : a0.toList = ([115, 101, 99, 111, 110, 100] : List UInt8)
                          · rw [if_pos c28] at H
                            have c28b0 : (a0.toList == ([115, 101, 99, 111, 110, 100] : List UInt8)) = true := beq_iff_eq.mpr c28
                            have c28b1 : (a0.toList != ([115, 101, 99, 111, 110, 100] : List UInt8)) = false := bne_eq_false_iff_eq.mpr c28
                            clear c28
                            have H' := Aside0.mk H
                            clear H
                            go_wp2
                            go_meet
                            case rel => exact ⟨_, ((a0.toList == ([115, 101, 99, 111, 110, 100] : List UInt8))), (by first | rfl | (simp; done) | (simp [*]; done)), H', ⟨by have := HJ1.out; first | omega | exact Nat.le_refl _⟩, by repeat (first | exact Drawn0.refl _ | apply Drawn0.step)⟩
                          · rw [if_neg c28] at H
                            have c28b0 : (a0.toList == ([115, 101, 99, 111, 110, 100] : List UInt8)) = false := beq_eq_false_iff_ne.mpr c28
                            have c28b1 : (a0.toList != ([115, 101, 99, 111, 110, 100] : List UInt8)) = true := bne_iff_ne.mpr c28
                            have H' := Aside0.mk H
                            clear H
                            go_wp2
                            go_meet
                            case rel => exact ⟨_, ((a0.toList == ([104, 101, 97, 100] : List UInt8))), (by first | rfl | (simp; done) | (simp [*]; done)), H', ⟨by have := HJ1.out; first | omega | exact Nat.le_refl _⟩, by repeat (first | exact Drawn0.refl _ | apply Drawn0.step)⟩
        case rest =>
          clear HC19
          try clear c1
          try clear c2
          try clear p2
          try clear c3
          try clear c3b0
          try clear c3b1
          try clear c4
          try clear c4b0
          try clear c4b1
          try clear c5
          try clear c5b0
          try clear c5b1
          try clear c6
          try clear c6b0
          try clear c6b1
          try clear c7
          try clear c7b0
          try clear c7b1
          try clear c8
          try clear c8b0
          try clear c8b1
          try clear c9
          try clear c9b0
          try clear c9b1
          try clear c10
          try clear c10b0
          try clear c10b1
          try clear c11
          try clear c11b0
          try clear c11b1
          try clear c12
          try clear c12b0
          try clear c12b1
          try clear c13
          try clear c13b0
          try clear c13b1
          try clear c14
          try clear c14b0
          try clear c14b1
          try clear c15
          try clear c15b0
          try clear c15b1
          try clear c16
          try clear c16b0
          try clear c16b1
          try clear c17
          try clear c17b0
          try clear c17b1
          try clear c18
          try clear c20
          try clear c20b0
          try clear c20b1
          try clear c21
          try clear c21b0
          try clear c21b1
          try clear c22
          try clear c22b0
          try clear c22b1
          try clear c23
          try clear c23b0
          try clear c23b1
          try clear c24
          try clear c24b0
          try clear c24b1
          try clear c25
          try clear c25b0
          try clear c25b1
          try clear c26
          try clear c26b0
          try clear c26b1
          try clear c27
          try clear c27b0
          try clear c27b1
          try clear c28
          try clear c28b0
          try clear c28b1
          try clear p2
          obtain ⟨kq, x21_18, rfl, HA, HJ18, ⟨mc18, rfl⟩⟩ := hcut
          cases kq with
          | zero => exact absurd HA.out (by simp [selfstabref04_Reserved.j1])
          | succ kj18 =>
            have H := HA.out
            clear HA
            simp only [selfstabref04_Reserved.j1] at H
            by_cases c29 : x21_18 = true
            · subst c29
              have H1 : (some true) = some r := by rw [if_pos rfl] at H; exact H
              clear H
              have H := H1
              clear H1
              obtain rfl := Option.some.inj H
              go_wp2
              go_ret
              exact ⟨by first | rfl | (simp; done) | (simp [*]; done), by repeat (first | exact Drawn0.refl _ | apply Drawn0.step)⟩
            · replace c29 := Bool.eq_false_iff.mpr c29
              subst c29
              have H1 : (some false) = some r := by rw [if_neg (show ¬ (false = true) by decide)] at H; exact H
              clear H
              have H := H1
              clear H1
              obtain rfl := Option.some.inj H
              go_wp2
              go_ret
              exact ⟨by first | rfl | (simp; done) | (simp [*]; done), by repeat (first | exact Drawn0.refl _ | apply Drawn0.step)⟩

/-! ### lexer_Name: function 19 -/
def lexer_Name.f (k : Nat) (a0 : ByteArray) : Option (Bool) := if a0.toList = ([] : List UInt8) then (some false) else (if (a0.size : Int) ≤ 24 then (if 0 < (a0.size : Int) then ((lexer_letter.f (bt a0 0)).bind fun t307 => (if t307 = true then ((lexer_while_at_lexer_inside.f k a0 0).bind fun t308 => (if t308 = (a0.size : Int) then ((lexer_Reserved.f k a0).bind fun t309 => (some (!t309))) else (some false))) else (some false))) else (none)) else (some false))
theorem lexer_Name.mono : ∀ a0 k, LeO (lexer_Name.f k a0) (lexer_Name.f (k + 1) a0) := by
  intro a0 k
  unfold lexer_Name.f
  repeat' first
      | (with_reducible exact lexer_Reserved.mono _ _)
      | (with_reducible exact lexer_while_at_lexer_inside.mono _ _ _)
      | (with_reducible exact LeO.refl _)
      | (with_reducible exact LeO.none _)
      | (with_reducible refine LeO.ite ?_ ?_)
      | (with_reducible refine LeO.bind ?_ (fun _ => ?_))
      | exact lexer_Reserved.mono _ _
      | exact lexer_while_at_lexer_inside.mono _ _ _
      | exact LeO.none _
      | refine LeO.ite ?_ ?_
      | refine LeO.bind ?_ (fun _ => ?_)
set_option maxHeartbeats 6000000 in
set_option maxRecDepth 100000 in
theorem lexer_Name.calls (k : Nat) (a0 : ByteArray) (r : Bool) (w : World) (hshp : Shp w) (h : lexer_Name.f k a0 = some r) :
    Calls Try.prog 19 #[.string a0] w fun e w' => e = .returned (.bool r) ∧ Below w.heap.size w w' := by
  have HSHP := Aside0.mk hshp
  clear hshp
  have HB := Aside0.mk (Below.refl w.heap.size w)
  have H : (if a0.toList = ([] : List UInt8) then (some false) else (if (a0.size : Int) ≤ 24 then (if 0 < (a0.size : Int) then ((lexer_letter.f (bt a0 0)).bind fun t307 => (if t307 = true then ((lexer_while_at_lexer_inside.f k a0 0).bind fun t308 => (if t308 = (a0.size : Int) then ((lexer_Reserved.f k a0).bind fun t309 => (some (!t309))) else (some false))) else (some false))) else (none)) else (some false))) = some r := h
  clear h
  by_cases c2 : a0.toList = ([] : List UInt8)
  · rw [if_pos c2] at H
    have c2b0 : (a0.toList == ([] : List UInt8)) = true := beq_iff_eq.mpr c2
    have c2b1 : (a0.toList != ([] : List UInt8)) = false := bne_eq_false_iff_eq.mpr c2
    clear c2
    obtain rfl := Option.some.inj H
    go_enter Try.func19, Try.ntmps19
    go_wp2
    go_ret
    exact ⟨by first | rfl | (simp [errW_none, errW_some] <;> rfl) | (simp [*, errW_none, errW_some] <;> rfl), by repeat (first | (with_reducible first | exact HB.out | apply below_alloc | apply pw_below_drewN | apply below_drew1) | exact HB.out)⟩
  · rw [if_neg c2] at H
    have c2b0 : (a0.toList == ([] : List UInt8)) = false := beq_eq_false_iff_ne.mpr c2
    have c2b1 : (a0.toList != ([] : List UInt8)) = true := bne_iff_ne.mpr c2
    by_cases c3 : (a0.size : Int) ≤ 24
    · rw [if_pos c3] at H
      have c3b0 : decide ((a0.size : Int) ≤ 24) = true := decide_eq_true c3
      have c3b1 : decide (a0.size ≤ 24) = true := decide_eq_true (by omega)
      clear c3
      by_cases c4 : 0 < (a0.size : Int)
      · rw [if_pos c4] at H
        have c4b0 : decide (0 < (a0.size : Int)) = true := decide_eq_true c4
        have c4b1 : decide (0 < a0.size) = true := decide_eq_true (by omega)
        clear c4
        replace H := Option.bind_eq_some_iff.mp H
        obtain ⟨t307, A60, H⟩ := H
        replace H : (if t307 = true then ((lexer_while_at_lexer_inside.f k a0 0).bind fun t308 => (if t308 = (a0.size : Int) then ((lexer_Reserved.f k a0).bind fun t309 => (some (!t309))) else (some false))) else (some false)) = some r := H
        have A6 := Aside0.mk A60
        clear A60
        by_cases c7 : t307 = true
        · subst c7
          have H1 : ((lexer_while_at_lexer_inside.f k a0 0).bind fun t308 => (if t308 = (a0.size : Int) then ((lexer_Reserved.f k a0).bind fun t309 => (some (!t309))) else (some false))) = some r := by rw [if_pos rfl] at H; exact H
          clear H
          have H := H1
          clear H1
          replace H := Option.bind_eq_some_iff.mp H
          obtain ⟨t308, A80, H⟩ := H
          replace H : (if t308 = (a0.size : Int) then ((lexer_Reserved.f k a0).bind fun t309 => (some (!t309))) else (some false)) = some r := H
          have A8 := Aside0.mk A80
          clear A80
          by_cases c9 : t308 = (a0.size : Int)
          · rw [if_pos c9] at H
            have c9b0 : (t308 == (a0.size : Int)) = true := beq_iff_eq.mpr c9
            have c9b1 : (t308 != (a0.size : Int)) = false := bne_eq_false_iff_eq.mpr c9
            clear c9
            replace H := Option.bind_eq_some_iff.mp H
            obtain ⟨t309, A100, H⟩ := H
            replace H : (some (!t309)) = some r := H
            have A10 := Aside0.mk A100
            clear A100
            obtain rfl := Option.some.inj H
            have p5 : 0 ≤ (0 : Int) := (by omega)
            have q5 : 0 < a0.size := (by have : (0 : Int) < (a0.size : Int) := of_decide_eq_true (by first | (with_reducible assumption) | assumption); omega)
            have hx5 : ∀ h : 0 < a0.size, ((a0[0]'h).toNat : Int) = bt a0 0 := bt_at a0 0
            clear p5
            have qi5 : (0 < (a0.size : Int)) = True := eq_true (of_decide_eq_true (by first | (with_reducible assumption) | assumption))
            replace q5 := eq_true q5
            go_enter Try.func19, Try.ntmps19
            go_wp2_with (first | (go_at_call 26; (with_reducible refine (lexer_letter.calls (bt a0 0) true _ A6.out).mono ?_); rintro e w' ⟨rfl, ⟨nd, rfl⟩⟩) | (go_at_call 25; (with_reducible refine (lexer_while_at_lexer_inside.calls k a0 0  t308 _ A8.out).mono ?_); rintro e w11 ⟨rfl, hb⟩; have n0_ := Aside0.mk (below_step (by repeat (first | (with_reducible first | exact HB.out | apply below_alloc | apply pw_below_drewN | apply below_drew1) | exact HB.out)) hb); clear HB; have HB := n0_; clear n0_; (try clear hb); (try clear hb2); (try clear hk); (try clear hi)) | (go_at_call 17; (with_reducible refine (lexer_Reserved.calls k a0 t309 _ ?side1 A10.out).mono ?_); (case side1 => first | ((with_reducible repeat (first | exact HSHP.out | refine Shp.alloc ?_ _ | refine Shp.drewN ?_ _ | refine Shp.drew ?_)); done) | (with_reducible refine Shp.below HSHP.out ?_; repeat (first | (with_reducible first | exact HB.out | apply below_alloc | apply pw_below_drewN | apply below_drew1) | exact HB.out))); rintro e w12 ⟨rfl, hb⟩; have n0_ := Aside0.mk (below_step (by repeat (first | (with_reducible first | exact HB.out | apply below_alloc | apply pw_below_drewN | apply below_drew1) | exact HB.out)) hb); clear HB; have HB := n0_; clear n0_; (try clear hb); (try clear hb2); (try clear hk); (try clear hi)))
            go_ret
            exact ⟨by first | rfl | (simp [errW_none, errW_some] <;> rfl) | (simp [*, errW_none, errW_some] <;> rfl), by repeat (first | (with_reducible first | exact HB.out | apply below_alloc | apply pw_below_drewN | apply below_drew1) | exact HB.out)⟩
          · rw [if_neg c9] at H
            have c9b0 : (t308 == (a0.size : Int)) = false := beq_eq_false_iff_ne.mpr c9
            have c9b1 : (t308 != (a0.size : Int)) = true := bne_iff_ne.mpr c9
            obtain rfl := Option.some.inj H
            have p5 : 0 ≤ (0 : Int) := (by omega)
            have q5 : 0 < a0.size := (by have : (0 : Int) < (a0.size : Int) := of_decide_eq_true (by first | (with_reducible assumption) | assumption); omega)
            have hx5 : ∀ h : 0 < a0.size, ((a0[0]'h).toNat : Int) = bt a0 0 := bt_at a0 0
            clear p5
            have qi5 : (0 < (a0.size : Int)) = True := eq_true (of_decide_eq_true (by first | (with_reducible assumption) | assumption))
            replace q5 := eq_true q5
            go_enter Try.func19, Try.ntmps19
            go_wp2_with (first | (go_at_call 26; (with_reducible refine (lexer_letter.calls (bt a0 0) true _ A6.out).mono ?_); rintro e w' ⟨rfl, ⟨nd, rfl⟩⟩) | (go_at_call 25; (with_reducible refine (lexer_while_at_lexer_inside.calls k a0 0  t308 _ A8.out).mono ?_); rintro e w13 ⟨rfl, hb⟩; have n0_ := Aside0.mk (below_step (by repeat (first | (with_reducible first | exact HB.out | apply below_alloc | apply pw_below_drewN | apply below_drew1) | exact HB.out)) hb); clear HB; have HB := n0_; clear n0_; (try clear hb); (try clear hb2); (try clear hk); (try clear hi)))
            go_ret
            exact ⟨by first | rfl | (simp [errW_none, errW_some] <;> rfl) | (simp [*, errW_none, errW_some] <;> rfl), by repeat (first | (with_reducible first | exact HB.out | apply below_alloc | apply pw_below_drewN | apply below_drew1) | exact HB.out)⟩
        · replace c7 := Bool.eq_false_iff.mpr c7
          subst c7
          have H1 : (some false) = some r := by rw [if_neg (show ¬ (false = true) by decide)] at H; exact H
          clear H
          have H := H1
          clear H1
          obtain rfl := Option.some.inj H
          have p5 : 0 ≤ (0 : Int) := (by omega)
          have q5 : 0 < a0.size := (by have : (0 : Int) < (a0.size : Int) := of_decide_eq_true (by first | (with_reducible assumption) | assumption); omega)
          have hx5 : ∀ h : 0 < a0.size, ((a0[0]'h).toNat : Int) = bt a0 0 := bt_at a0 0
          clear p5
          have qi5 : (0 < (a0.size : Int)) = True := eq_true (of_decide_eq_true (by first | (with_reducible assumption) | assumption))
          replace q5 := eq_true q5
          go_enter Try.func19, Try.ntmps19
          go_wp2_with (first | (go_at_call 26; (with_reducible refine (lexer_letter.calls (bt a0 0) false _ A6.out).mono ?_); rintro e w' ⟨rfl, ⟨nd, rfl⟩⟩))
          go_ret
          exact ⟨by first | rfl | (simp [errW_none, errW_some] <;> rfl) | (simp [*, errW_none, errW_some] <;> rfl), by repeat (first | (with_reducible first | exact HB.out | apply below_alloc | apply pw_below_drewN | apply below_drew1) | exact HB.out)⟩
      · rw [if_neg c4] at H
        exact absurd H (by simp)
    · rw [if_neg c3] at H
      have c3b0 : decide ((a0.size : Int) ≤ 24) = false := decide_eq_false c3
      have c3b1 : decide (a0.size ≤ 24) = false := decide_eq_false (by omega)
      clear c3
      obtain rfl := Option.some.inj H
      go_enter Try.func19, Try.ntmps19
      go_wp2
      go_ret
      exact ⟨by first | rfl | (simp [errW_none, errW_some] <;> rfl) | (simp [*, errW_none, errW_some] <;> rfl), by repeat (first | (with_reducible first | exact HB.out | apply below_alloc | apply pw_below_drewN | apply below_drew1) | exact HB.out)⟩

end Go.Proofs.Ytanickojbgceaaa.P
