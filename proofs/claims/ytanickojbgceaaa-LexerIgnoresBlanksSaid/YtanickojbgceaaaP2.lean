-- made by a program of mine (wip/tools/pp.py over the kit's print)
import Derived.Test.YtanickojbgceaaaP0
namespace Go.Proofs.Ytanickojbgceaaa.P
open Go.RowKit Go.Proofs.YtanickojbgceaaaW.PrintWords Go.Proofs.YtanickojbgceaaaW.PrintLast Go.Proofs.YtanickojbgceaaaW.PrintMore
attribute [local go_sem] max2_int min2_int max_two min_two max_three min_three max_four min_four   -- for this text's walks alone
set_option linter.unusedVariables false
set_option linter.unusedSimpArgs false

/-! ### lexer_blank: function 31 -/
def lexer_blank.f (a0 : Int) : Option (Bool) := if a0 = 32 then (some true) else (if a0 = 9 then (some true) else (if a0 = 10 then (some true) else (some (a0 == 13))))
set_option maxHeartbeats 6000000 in
set_option maxRecDepth 100000 in
theorem lexer_blank.calls (a0 : Int) (r : Bool) (w : World) (h : lexer_blank.f a0 = some r) :
    Calls Try.prog 31 #[.int .u8 a0] w fun e w' => e = .returned (.bool r) ∧ Drawn0 w w' := by
  have H : (if a0 = 32 then (some true) else (if a0 = 9 then (some true) else (if a0 = 10 then (some true) else (some (a0 == 13))))) = some r := h
  clear h
  by_cases c2 : a0 = 32
  · rw [if_pos c2] at H
    have c2b0 : (a0 == 32) = true := beq_iff_eq.mpr c2
    have c2b1 : (a0 != 32) = false := bne_eq_false_iff_eq.mpr c2
    clear c2
    obtain rfl := Option.some.inj H
    go_enter Try.func31, Try.ntmps31
    go_wp2
    go_ret
    exact ⟨by first | rfl | (simp; done) | (simp [*]; done), by repeat (first | exact Drawn0.refl _ | apply Drawn0.step)⟩
  · rw [if_neg c2] at H
    have c2b0 : (a0 == 32) = false := beq_eq_false_iff_ne.mpr c2
    have c2b1 : (a0 != 32) = true := bne_iff_ne.mpr c2
    by_cases c3 : a0 = 9
    · rw [if_pos c3] at H
      have c3b0 : (a0 == 9) = true := beq_iff_eq.mpr c3
      have c3b1 : (a0 != 9) = false := bne_eq_false_iff_eq.mpr c3
      clear c3
      obtain rfl := Option.some.inj H
      go_enter Try.func31, Try.ntmps31
      go_wp2
      go_ret
      exact ⟨by first | rfl | (simp; done) | (simp [*]; done), by repeat (first | exact Drawn0.refl _ | apply Drawn0.step)⟩
    · rw [if_neg c3] at H
      have c3b0 : (a0 == 9) = false := beq_eq_false_iff_ne.mpr c3
      have c3b1 : (a0 != 9) = true := bne_iff_ne.mpr c3
      by_cases c4 : a0 = 10
      · rw [if_pos c4] at H
        have c4b0 : (a0 == 10) = true := beq_iff_eq.mpr c4
        have c4b1 : (a0 != 10) = false := bne_eq_false_iff_eq.mpr c4
        clear c4
        obtain rfl := Option.some.inj H
        go_enter Try.func31, Try.ntmps31
        go_wp2
        go_ret
        exact ⟨by first | rfl | (simp; done) | (simp [*]; done), by repeat (first | exact Drawn0.refl _ | apply Drawn0.step)⟩
      · rw [if_neg c4] at H
        have c4b0 : (a0 == 10) = false := beq_eq_false_iff_ne.mpr c4
        have c4b1 : (a0 != 10) = true := bne_iff_ne.mpr c4
        obtain rfl := Option.some.inj H
        go_enter Try.func31, Try.ntmps31
        go_wp2
        go_ret
        exact ⟨by first | rfl | (simp; done) | (simp [*]; done), by repeat (first | exact Drawn0.refl _ | apply Drawn0.step)⟩

/-! ### lexer_skip_1: function 32 -/
def lexer_skip_1.f (a0 : Int) : Option (Bool) := some (a0 != 10)
set_option maxHeartbeats 6000000 in
set_option maxRecDepth 100000 in
theorem lexer_skip_1.calls (a0 : Int) (r : Bool) (w : World) (h : lexer_skip_1.f a0 = some r) :
    Calls Try.prog 32 #[.int .u8 a0] w fun e w' => e = .returned (.bool r) ∧ Drawn0 w w' := by
  have H : (some (a0 != 10)) = some r := h
  clear h
  obtain rfl := Option.some.inj H
  go_enter Try.func32, Try.ntmps32
  go_wp2
  go_ret
  exact ⟨by first | rfl | (simp; done) | (simp [*]; done), by repeat (first | exact Drawn0.refl _ | apply Drawn0.step)⟩

/-! ### lexer_while_at_lexer_blank: function 25 -/
mutual
def lexer_while_at_lexer_blank.l0 : Nat → ByteArray → Int → Option (Int)
  | 0, _, _ => none
  | k + 1, x0, x1 => if x1 < (x0.size : Int) then (if 0 ≤ x1 then ((lexer_blank.f (bt x0 x1)).bind fun t101 => (lexer_while_at_lexer_blank.j1 k x0 x1 t101)) else (none)) else (lexer_while_at_lexer_blank.j1 k x0 x1 false)
def lexer_while_at_lexer_blank.j1 : Nat → ByteArray → Int → Bool → Option (Int)
  | 0, _, _, _ => none
  | k + 1, x0, x1, x17 => if x17 = true then (lexer_while_at_lexer_blank.l0 k x0 (wrap64 (x1 + 1))) else (some x1)
end
def lexer_while_at_lexer_blank.f (k : Nat) (a0 : ByteArray) (a1 : Int)  : Option (Int) := lexer_while_at_lexer_blank.l0 k a0 a1
theorem lexer_while_at_lexer_blank.mono_l : ∀ k, (∀ y0 y1, LeO (lexer_while_at_lexer_blank.l0 k y0 y1) (lexer_while_at_lexer_blank.l0 (k + 1) y0 y1)) ∧ (∀ y0 y1 y2, LeO (lexer_while_at_lexer_blank.j1 k y0 y1 y2) (lexer_while_at_lexer_blank.j1 (k + 1) y0 y1 y2))
  | 0 => ⟨fun _ _ r h => by simp [lexer_while_at_lexer_blank.l0] at h, fun _ _ _ r h => by simp [lexer_while_at_lexer_blank.j1] at h⟩
  | k + 1 => by
    obtain ⟨ih0, ih1⟩ := lexer_while_at_lexer_blank.mono_l k
    refine ⟨?_, ?_⟩
    · intro y0 y1
      unfold lexer_while_at_lexer_blank.l0
      repeat' first
      | (with_reducible exact ih0 _ _)
      | (with_reducible exact ih1 _ _ _)
      | (with_reducible exact LeO.refl _)
      | (with_reducible exact LeO.none _)
      | (with_reducible refine LeO.ite ?_ ?_)
      | (with_reducible refine LeO.bind ?_ (fun _ => ?_))
      | exact ih0 _ _
      | exact ih1 _ _ _
      | exact LeO.none _
      | refine LeO.ite ?_ ?_
      | refine LeO.bind ?_ (fun _ => ?_)
    · intro y0 y1 y2
      unfold lexer_while_at_lexer_blank.j1
      repeat' first
      | (with_reducible exact ih0 _ _)
      | (with_reducible exact ih1 _ _ _)
      | (with_reducible exact LeO.refl _)
      | (with_reducible exact LeO.none _)
      | (with_reducible refine LeO.ite ?_ ?_)
      | (with_reducible refine LeO.bind ?_ (fun _ => ?_))
      | exact ih0 _ _
      | exact ih1 _ _ _
      | exact LeO.none _
      | refine LeO.ite ?_ ?_
      | refine LeO.bind ?_ (fun _ => ?_)
theorem lexer_while_at_lexer_blank.mono : ∀ a0 a1 k, LeO (lexer_while_at_lexer_blank.f k a0 a1) (lexer_while_at_lexer_blank.f (k + 1) a0 a1) := by
  intro a0 a1 k
  obtain ⟨ih0, ih1⟩ := lexer_while_at_lexer_blank.mono_l k
  unfold lexer_while_at_lexer_blank.f
  repeat' first
      | (with_reducible exact ih0 _ _)
      | (with_reducible exact ih1 _ _ _)
      | (with_reducible exact LeO.refl _)
      | (with_reducible exact LeO.none _)
      | (with_reducible refine LeO.ite ?_ ?_)
      | (with_reducible refine LeO.bind ?_ (fun _ => ?_))
      | exact ih0 _ _
      | exact ih1 _ _ _
      | exact LeO.none _
      | refine LeO.ite ?_ ?_
      | refine LeO.bind ?_ (fun _ => ?_)
set_option maxHeartbeats 6000000 in
set_option maxRecDepth 100000 in
theorem lexer_while_at_lexer_blank.calls (k : Nat) (a0 : ByteArray) (a1 : Int)  (r : Int) (w : World) (h : lexer_while_at_lexer_blank.f k a0 a1 = some r) :
    Calls Try.prog 25 #[.string a0, .int .i64 a1, .func (.func 31) #[] #[]] w fun e w' => e = .returned (.int .i64 r) ∧ Below w.heap.size w w' := by
  have HB := Aside0.mk (Below.refl w.heap.size w)
  have H : (lexer_while_at_lexer_blank.l0 k a0 a1) = some r := h
  clear h
  have H' := Aside0.mk H
  clear H
  go_enter Try.func25, Try.ntmps25
  go_wp2
  go_loopg [1] k (fun kq v1 w' => ∃ (x1_1 : Int), v1 = .int .i64 x1_1 ∧ Aside0 (lexer_while_at_lexer_blank.l0 kq a0 x1_1 = some r) ∧ Aside0 (kq ≤ k) ∧ Aside0 (Below w.heap.size w w'))
  case atStart => exact ⟨(a1), (by first | rfl | (simp; done) | (simp [*]; done)), H', ⟨Nat.le_refl _⟩, ⟨by repeat (first | (with_reducible first | exact HB.out | apply below_alloc | apply pw_below_drewN | apply below_drew1) | exact HB.out)⟩⟩
  case round =>
    clear H'
    try clear p2
    obtain ⟨x1_1, rfl, HA, HK1, HB⟩ := hrel
    cases gk with
    | zero => exact absurd HA.out (by simp [lexer_while_at_lexer_blank.l0])
    | succ k1 =>
      have H := HA.out
      clear HA
      simp only [lexer_while_at_lexer_blank.l0] at H
      have HC4 := Aside0.mk H
      clear H
      go_upto_region 1 with (fail)
      go_cut [17] (fun v17 wc => ∃ (kq : Nat) (x17_3 : Bool), v17 = .bool x17_3 ∧ Aside0 (lexer_while_at_lexer_blank.j1 kq a0 x1_1 x17_3 = some r) ∧ Aside0 (kq ≤ k1) ∧ Aside0 (Below w.heap.size w wc))
      case first =>
        have H := HC4.out
        clear HC4
        by_cases c5 : x1_1 < (a0.size : Int)
        · rw [if_pos c5] at H
          have c5b0 : decide (x1_1 < (a0.size : Int)) = true := decide_eq_true c5
          clear c5
          (first | rw [c5b0] | (simp only [i64_w, i32_w]; rw [c5b0]) | skip)
          by_cases c6 : 0 ≤ x1_1
          · rw [if_pos c6] at H
            have c6b0 : decide (0 ≤ x1_1) = true := decide_eq_true c6
            clear c6
            replace H := Option.bind_eq_some_iff.mp H
            obtain ⟨t101, A80, H⟩ := H
            replace H : (lexer_while_at_lexer_blank.j1 k1 a0 x1_1 t101) = some r := H
            have A8 := Aside0.mk A80
            clear A80
            have H' := Aside0.mk H
            clear H
            have p7 : 0 ≤ (x1_1 : Int) := of_decide_eq_true (by first | (with_reducible assumption) | assumption)
            have q7 : x1_1 < (a0.size : Int) := of_decide_eq_true (by first | (with_reducible assumption) | assumption)
            have hx7 := bt_at a0 x1_1
            replace p7 := eq_true p7
            replace q7 := eq_true q7
            go_wp2_with (first | (go_at_call 31; (with_reducible refine (lexer_blank.calls (bt a0 x1_1) t101 _ A8.out).mono ?_); rintro e w' ⟨rfl, ⟨nd, rfl⟩⟩))
            go_meet
            case rel => exact ⟨_, (t101), (by first | rfl | (simp; done) | (simp [*]; done)), H', ⟨by have := HK1.out; first | omega | exact Nat.le_refl _⟩, ⟨by repeat (first | (with_reducible first | exact HB.out | apply below_alloc | apply pw_below_drewN | apply below_drew1) | exact HB.out)⟩⟩
          · rw [if_neg c6] at H
            exact absurd H (by simp)
        · rw [if_neg c5] at H
          have c5b0 : decide (x1_1 < (a0.size : Int)) = false := decide_eq_false c5
          clear c5
          (first | rw [c5b0] | (simp only [i64_w, i32_w]; rw [c5b0]) | skip)
          have H' := Aside0.mk H
          clear H
          go_wp2
          go_meet
          case rel => exact ⟨_, (false), (by first | rfl | (simp; done) | (simp [*]; done)), H', ⟨by have := HK1.out; first | omega | exact Nat.le_refl _⟩, ⟨by repeat (first | (with_reducible first | exact HB.out | apply below_alloc | apply pw_below_drewN | apply below_drew1) | exact HB.out)⟩⟩
      case rest =>
        clear HC4
        try clear p2
        try clear c5
        try clear c5b0
        try clear c6
        try clear c6b0
        try clear c7
        try clear p7
        try clear q7
        try clear hx7
        try clear p2
        try clear p7
        try clear q7
        obtain ⟨kq, x17_3, rfl, HA, HJ3, HB⟩ := hcut
        cases kq with
        | zero => exact absurd HA.out (by simp [lexer_while_at_lexer_blank.j1])
        | succ kj3 =>
          have H := HA.out
          clear HA
          simp only [lexer_while_at_lexer_blank.j1] at H
          by_cases c9 : x17_3 = true
          · subst c9
            have H1 : (lexer_while_at_lexer_blank.l0 kj3 a0 (wrap64 (x1_1 + 1))) = some r := by rw [if_pos rfl] at H; exact H
            clear H
            have H := H1
            clear H1
            have H' := Aside0.mk H
            clear H
            go_wp2
            go_roundg kj3
            case measure => have := HK1.out; have := HJ3.out; omega
            case rel => exact ⟨(wrap64 (x1_1 + 1)), (by first | rfl | (simp; done) | (simp [*]; done)), H', ⟨by have := HK1.out; have := HJ3.out; omega⟩, ⟨by repeat (first | (with_reducible first | exact HB.out | apply below_alloc | apply pw_below_drewN | apply below_drew1) | exact HB.out)⟩⟩
          · replace c9 := Bool.eq_false_iff.mpr c9
            subst c9
            have H1 : (some x1_1) = some r := by rw [if_neg (show ¬ (false = true) by decide)] at H; exact H
            clear H
            have H := H1
            clear H1
            obtain rfl := Option.some.inj H
            go_wp2
            go_ret
            exact ⟨by first | rfl | (simp [errW_none, errW_some] <;> rfl) | (simp [*, errW_none, errW_some] <;> rfl), by repeat (first | (with_reducible first | exact HB.out | apply below_alloc | apply pw_below_drewN | apply below_drew1) | exact HB.out)⟩

/-! ### lexer_while_at_lexer_skip_1: function 25 -/
mutual
def lexer_while_at_lexer_skip_1.l0 : Nat → ByteArray → Int → Option (Int)
  | 0, _, _ => none
  | k + 1, x0, x1 => if x1 < (x0.size : Int) then (if 0 ≤ x1 then ((lexer_skip_1.f (bt x0 x1)).bind fun t102 => (lexer_while_at_lexer_skip_1.j1 k x0 x1 t102)) else (none)) else (lexer_while_at_lexer_skip_1.j1 k x0 x1 false)
def lexer_while_at_lexer_skip_1.j1 : Nat → ByteArray → Int → Bool → Option (Int)
  | 0, _, _, _ => none
  | k + 1, x0, x1, x17 => if x17 = true then (lexer_while_at_lexer_skip_1.l0 k x0 (wrap64 (x1 + 1))) else (some x1)
end
def lexer_while_at_lexer_skip_1.f (k : Nat) (a0 : ByteArray) (a1 : Int)  : Option (Int) := lexer_while_at_lexer_skip_1.l0 k a0 a1
theorem lexer_while_at_lexer_skip_1.mono_l : ∀ k, (∀ y0 y1, LeO (lexer_while_at_lexer_skip_1.l0 k y0 y1) (lexer_while_at_lexer_skip_1.l0 (k + 1) y0 y1)) ∧ (∀ y0 y1 y2, LeO (lexer_while_at_lexer_skip_1.j1 k y0 y1 y2) (lexer_while_at_lexer_skip_1.j1 (k + 1) y0 y1 y2))
  | 0 => ⟨fun _ _ r h => by simp [lexer_while_at_lexer_skip_1.l0] at h, fun _ _ _ r h => by simp [lexer_while_at_lexer_skip_1.j1] at h⟩
  | k + 1 => by
    obtain ⟨ih0, ih1⟩ := lexer_while_at_lexer_skip_1.mono_l k
    refine ⟨?_, ?_⟩
    · intro y0 y1
      unfold lexer_while_at_lexer_skip_1.l0
      repeat' first
      | (with_reducible exact ih0 _ _)
      | (with_reducible exact ih1 _ _ _)
      | (with_reducible exact LeO.refl _)
      | (with_reducible exact LeO.none _)
      | (with_reducible refine LeO.ite ?_ ?_)
      | (with_reducible refine LeO.bind ?_ (fun _ => ?_))
      | exact ih0 _ _
      | exact ih1 _ _ _
      | exact LeO.none _
      | refine LeO.ite ?_ ?_
      | refine LeO.bind ?_ (fun _ => ?_)
    · intro y0 y1 y2
      unfold lexer_while_at_lexer_skip_1.j1
      repeat' first
      | (with_reducible exact ih0 _ _)
      | (with_reducible exact ih1 _ _ _)
      | (with_reducible exact LeO.refl _)
      | (with_reducible exact LeO.none _)
      | (with_reducible refine LeO.ite ?_ ?_)
      | (with_reducible refine LeO.bind ?_ (fun _ => ?_))
      | exact ih0 _ _
      | exact ih1 _ _ _
      | exact LeO.none _
      | refine LeO.ite ?_ ?_
      | refine LeO.bind ?_ (fun _ => ?_)
theorem lexer_while_at_lexer_skip_1.mono : ∀ a0 a1 k, LeO (lexer_while_at_lexer_skip_1.f k a0 a1) (lexer_while_at_lexer_skip_1.f (k + 1) a0 a1) := by
  intro a0 a1 k
  obtain ⟨ih0, ih1⟩ := lexer_while_at_lexer_skip_1.mono_l k
  unfold lexer_while_at_lexer_skip_1.f
  repeat' first
      | (with_reducible exact ih0 _ _)
      | (with_reducible exact ih1 _ _ _)
      | (with_reducible exact LeO.refl _)
      | (with_reducible exact LeO.none _)
      | (with_reducible refine LeO.ite ?_ ?_)
      | (with_reducible refine LeO.bind ?_ (fun _ => ?_))
      | exact ih0 _ _
      | exact ih1 _ _ _
      | exact LeO.none _
      | refine LeO.ite ?_ ?_
      | refine LeO.bind ?_ (fun _ => ?_)
set_option maxHeartbeats 6000000 in
set_option maxRecDepth 100000 in
theorem lexer_while_at_lexer_skip_1.calls (k : Nat) (a0 : ByteArray) (a1 : Int)  (r : Int) (w : World) (h : lexer_while_at_lexer_skip_1.f k a0 a1 = some r) :
    Calls Try.prog 25 #[.string a0, .int .i64 a1, .func (.func 32) #[] #[]] w fun e w' => e = .returned (.int .i64 r) ∧ Below w.heap.size w w' := by
  have HB := Aside0.mk (Below.refl w.heap.size w)
  have H : (lexer_while_at_lexer_skip_1.l0 k a0 a1) = some r := h
  clear h
  have H' := Aside0.mk H
  clear H
  go_enter Try.func25, Try.ntmps25
  go_wp2
  go_loopg [1] k (fun kq v1 w' => ∃ (x1_1 : Int), v1 = .int .i64 x1_1 ∧ Aside0 (lexer_while_at_lexer_skip_1.l0 kq a0 x1_1 = some r) ∧ Aside0 (kq ≤ k) ∧ Aside0 (Below w.heap.size w w'))
  case atStart => exact ⟨(a1), (by first | rfl | (simp; done) | (simp [*]; done)), H', ⟨Nat.le_refl _⟩, ⟨by repeat (first | (with_reducible first | exact HB.out | apply below_alloc | apply pw_below_drewN | apply below_drew1) | exact HB.out)⟩⟩
  case round =>
    clear H'
    try clear p2
    obtain ⟨x1_1, rfl, HA, HK1, HB⟩ := hrel
    cases gk with
    | zero => exact absurd HA.out (by simp [lexer_while_at_lexer_skip_1.l0])
    | succ k1 =>
      have H := HA.out
      clear HA
      simp only [lexer_while_at_lexer_skip_1.l0] at H
      have HC4 := Aside0.mk H
      clear H
      go_upto_region 1 with (fail)
      go_cut [17] (fun v17 wc => ∃ (kq : Nat) (x17_3 : Bool), v17 = .bool x17_3 ∧ Aside0 (lexer_while_at_lexer_skip_1.j1 kq a0 x1_1 x17_3 = some r) ∧ Aside0 (kq ≤ k1) ∧ Aside0 (Below w.heap.size w wc))
      case first =>
        have H := HC4.out
        clear HC4
        by_cases c5 : x1_1 < (a0.size : Int)
        · rw [if_pos c5] at H
          have c5b0 : decide (x1_1 < (a0.size : Int)) = true := decide_eq_true c5
          clear c5
          (first | rw [c5b0] | (simp only [i64_w, i32_w]; rw [c5b0]) | skip)
          by_cases c6 : 0 ≤ x1_1
          · rw [if_pos c6] at H
            have c6b0 : decide (0 ≤ x1_1) = true := decide_eq_true c6
            clear c6
            replace H := Option.bind_eq_some_iff.mp H
            obtain ⟨t102, A80, H⟩ := H
            replace H : (lexer_while_at_lexer_skip_1.j1 k1 a0 x1_1 t102) = some r := H
            have A8 := Aside0.mk A80
            clear A80
            have H' := Aside0.mk H
            clear H
            have p7 : 0 ≤ (x1_1 : Int) := of_decide_eq_true (by first | (with_reducible assumption) | assumption)
            have q7 : x1_1 < (a0.size : Int) := of_decide_eq_true (by first | (with_reducible assumption) | assumption)
            have hx7 := bt_at a0 x1_1
            replace p7 := eq_true p7
            replace q7 := eq_true q7
            go_wp2_with (first | (go_at_call 32; (with_reducible refine (lexer_skip_1.calls (bt a0 x1_1) t102 _ A8.out).mono ?_); rintro e w' ⟨rfl, ⟨nd, rfl⟩⟩))
            go_meet
            case rel => exact ⟨_, (t102), (by first | rfl | (simp; done) | (simp [*]; done)), H', ⟨by have := HK1.out; first | omega | exact Nat.le_refl _⟩, ⟨by repeat (first | (with_reducible first | exact HB.out | apply below_alloc | apply pw_below_drewN | apply below_drew1) | exact HB.out)⟩⟩
          · rw [if_neg c6] at H
            exact absurd H (by simp)
        · rw [if_neg c5] at H
          have c5b0 : decide (x1_1 < (a0.size : Int)) = false := decide_eq_false c5
          clear c5
          (first | rw [c5b0] | (simp only [i64_w, i32_w]; rw [c5b0]) | skip)
          have H' := Aside0.mk H
          clear H
          go_wp2
          go_meet
          case rel => exact ⟨_, (false), (by first | rfl | (simp; done) | (simp [*]; done)), H', ⟨by have := HK1.out; first | omega | exact Nat.le_refl _⟩, ⟨by repeat (first | (with_reducible first | exact HB.out | apply below_alloc | apply pw_below_drewN | apply below_drew1) | exact HB.out)⟩⟩
      case rest =>
        clear HC4
        try clear p2
        try clear c5
        try clear c5b0
        try clear c6
        try clear c6b0
        try clear c7
        try clear p7
        try clear q7
        try clear hx7
        try clear p2
        try clear p7
        try clear q7
        obtain ⟨kq, x17_3, rfl, HA, HJ3, HB⟩ := hcut
        cases kq with
        | zero => exact absurd HA.out (by simp [lexer_while_at_lexer_skip_1.j1])
        | succ kj3 =>
          have H := HA.out
          clear HA
          simp only [lexer_while_at_lexer_skip_1.j1] at H
          by_cases c9 : x17_3 = true
          · subst c9
            have H1 : (lexer_while_at_lexer_skip_1.l0 kj3 a0 (wrap64 (x1_1 + 1))) = some r := by rw [if_pos rfl] at H; exact H
            clear H
            have H := H1
            clear H1
            have H' := Aside0.mk H
            clear H
            go_wp2
            go_roundg kj3
            case measure => have := HK1.out; have := HJ3.out; omega
            case rel => exact ⟨(wrap64 (x1_1 + 1)), (by first | rfl | (simp; done) | (simp [*]; done)), H', ⟨by have := HK1.out; have := HJ3.out; omega⟩, ⟨by repeat (first | (with_reducible first | exact HB.out | apply below_alloc | apply pw_below_drewN | apply below_drew1) | exact HB.out)⟩⟩
          · replace c9 := Bool.eq_false_iff.mpr c9
            subst c9
            have H1 : (some x1_1) = some r := by rw [if_neg (show ¬ (false = true) by decide)] at H; exact H
            clear H
            have H := H1
            clear H1
            obtain rfl := Option.some.inj H
            go_wp2
            go_ret
            exact ⟨by first | rfl | (simp [errW_none, errW_some] <;> rfl) | (simp [*, errW_none, errW_some] <;> rfl), by repeat (first | (with_reducible first | exact HB.out | apply below_alloc | apply pw_below_drewN | apply below_drew1) | exact HB.out)⟩

/-! ### lexer_skip: function 21 -/
mutual
def lexer_skip.l0 : Nat → ByteArray → Int → Option (Int)
  | 0, _, _ => none
  | k + 1, x0, x1 => (lexer_while_at_lexer_blank.f k x0 x1).bind fun t103 => (if t103 = (x0.size : Int) then (lexer_skip.j1 k x0 t103 true) else (if 0 ≤ t103 then (if t103 < (x0.size : Int) then (lexer_skip.j1 k x0 t103 ((bt x0 t103) != 35)) else (none)) else (none)))
def lexer_skip.j1 : Nat → ByteArray → Int → Bool → Option (Int)
  | 0, _, _, _ => none
  | k + 1, x0, x1, x17 => if x17 = true then (some x1) else ((lexer_while_at_lexer_skip_1.f k x0 x1).bind fun t104 => (lexer_skip.l0 k x0 t104))
end
def lexer_skip.f (k : Nat) (a0 : ByteArray) (a1 : Int) : Option (Int) := lexer_skip.l0 k a0 a1
theorem lexer_skip.mono_l : ∀ k, (∀ y0 y1, LeO (lexer_skip.l0 k y0 y1) (lexer_skip.l0 (k + 1) y0 y1)) ∧ (∀ y0 y1 y2, LeO (lexer_skip.j1 k y0 y1 y2) (lexer_skip.j1 (k + 1) y0 y1 y2))
  | 0 => ⟨fun _ _ r h => by simp [lexer_skip.l0] at h, fun _ _ _ r h => by simp [lexer_skip.j1] at h⟩
  | k + 1 => by
    obtain ⟨ih0, ih1⟩ := lexer_skip.mono_l k
    refine ⟨?_, ?_⟩
    · intro y0 y1
      unfold lexer_skip.l0
      repeat' first
      | (with_reducible exact ih0 _ _)
      | (with_reducible exact ih1 _ _ _)
      | (with_reducible exact lexer_while_at_lexer_blank.mono _ _ _)
      | (with_reducible exact lexer_while_at_lexer_skip_1.mono _ _ _)
      | (with_reducible exact LeO.refl _)
      | (with_reducible exact LeO.none _)
      | (with_reducible refine LeO.ite ?_ ?_)
      | (with_reducible refine LeO.bind ?_ (fun _ => ?_))
      | exact ih0 _ _
      | exact ih1 _ _ _
      | exact lexer_while_at_lexer_blank.mono _ _ _
      | exact lexer_while_at_lexer_skip_1.mono _ _ _
      | exact LeO.none _
      | refine LeO.ite ?_ ?_
      | refine LeO.bind ?_ (fun _ => ?_)
    · intro y0 y1 y2
      unfold lexer_skip.j1
      repeat' first
      | (with_reducible exact ih0 _ _)
      | (with_reducible exact ih1 _ _ _)
      | (with_reducible exact lexer_while_at_lexer_blank.mono _ _ _)
      | (with_reducible exact lexer_while_at_lexer_skip_1.mono _ _ _)
      | (with_reducible exact LeO.refl _)
      | (with_reducible exact LeO.none _)
      | (with_reducible refine LeO.ite ?_ ?_)
      | (with_reducible refine LeO.bind ?_ (fun _ => ?_))
      | exact ih0 _ _
      | exact ih1 _ _ _
      | exact lexer_while_at_lexer_blank.mono _ _ _
      | exact lexer_while_at_lexer_skip_1.mono _ _ _
      | exact LeO.none _
      | refine LeO.ite ?_ ?_
      | refine LeO.bind ?_ (fun _ => ?_)
theorem lexer_skip.mono : ∀ a0 a1 k, LeO (lexer_skip.f k a0 a1) (lexer_skip.f (k + 1) a0 a1) := by
  intro a0 a1 k
  obtain ⟨ih0, ih1⟩ := lexer_skip.mono_l k
  unfold lexer_skip.f
  repeat' first
      | (with_reducible exact ih0 _ _)
      | (with_reducible exact ih1 _ _ _)
      | (with_reducible exact lexer_while_at_lexer_blank.mono _ _ _)
      | (with_reducible exact lexer_while_at_lexer_skip_1.mono _ _ _)
      | (with_reducible exact LeO.refl _)
      | (with_reducible exact LeO.none _)
      | (with_reducible refine LeO.ite ?_ ?_)
      | (with_reducible refine LeO.bind ?_ (fun _ => ?_))
      | exact ih0 _ _
      | exact ih1 _ _ _
      | exact lexer_while_at_lexer_blank.mono _ _ _
      | exact lexer_while_at_lexer_skip_1.mono _ _ _
      | exact LeO.none _
      | refine LeO.ite ?_ ?_
      | refine LeO.bind ?_ (fun _ => ?_)
set_option maxHeartbeats 6000000 in
set_option maxRecDepth 100000 in
theorem lexer_skip.calls (k : Nat) (a0 : ByteArray) (a1 : Int) (r : Int) (w : World) (h : lexer_skip.f k a0 a1 = some r) :
    Calls Try.prog 21 #[.string a0, .int .i64 a1] w fun e w' => e = .returned (.int .i64 r) ∧ Below w.heap.size w w' := by
  have HB := Aside0.mk (Below.refl w.heap.size w)
  have H : (lexer_skip.l0 k a0 a1) = some r := h
  clear h
  have H' := Aside0.mk H
  clear H
  go_enter Try.func21, Try.ntmps21
  go_wp2
  go_loopg [1] k (fun kq v1 w' => ∃ (x1_1 : Int), v1 = .int .i64 x1_1 ∧ Aside0 (lexer_skip.l0 kq a0 x1_1 = some r) ∧ Aside0 (kq ≤ k) ∧ Aside0 (Below w.heap.size w w'))
  case atStart => exact ⟨(a1), (by first | rfl | (simp; done) | (simp [*]; done)), H', ⟨Nat.le_refl _⟩, ⟨by repeat (first | (with_reducible first | exact HB.out | apply below_alloc | apply pw_below_drewN | apply below_drew1) | exact HB.out)⟩⟩
  case round =>
    clear H'
    try clear c2
    try clear p2
    obtain ⟨x1_1, rfl, HA, HK1, HB⟩ := hrel
    cases gk with
    | zero => exact absurd HA.out (by simp [lexer_skip.l0])
    | succ k1 =>
      have H := HA.out
      clear HA
      simp only [lexer_skip.l0] at H
      replace H := Option.bind_eq_some_iff.mp H
      obtain ⟨t103, A30, H⟩ := H
      replace H : (if t103 = (a0.size : Int) then (lexer_skip.j1 k1 a0 t103 true) else (if 0 ≤ t103 then (if t103 < (a0.size : Int) then (lexer_skip.j1 k1 a0 t103 ((bt a0 t103) != 35)) else (none)) else (none))) = some r := H
      have A3 := Aside0.mk A30
      clear A30
      have HC4 := Aside0.mk H
      clear H
      go_upto_region 2 with (first | ((with_reducible refine gate_callee (f := 25) rfl ?_); refine goesL_ (some 7) rfl rfl Try.func25 (by kernel_rfl) rfl #[.string a0, .int .i64 x1_1, .func (.func 31) #[] #[]] rfl (by (try simp only [List.map_toArray, List.map_cons, List.map_nil]); first | done | rfl | (simp only [List.length_drop, List.length_take]; rfl)) ?_; (with_reducible refine (lexer_while_at_lexer_blank.calls k1 a0 x1_1  t103 _ A3.out).mono ?_); rintro e w5 ⟨rfl, hb⟩; refine ⟨_, rfl, ?_⟩; have n0_ := Aside0.mk (below_step (by repeat (first | (with_reducible first | exact HB.out | apply below_alloc | apply pw_below_drewN | apply below_drew1) | exact HB.out)) hb); clear HB; have HB := n0_; clear n0_; (try clear hb); (try clear hb2); (try clear hk); (try clear hi)))
      (try simp only [Act.put, List.setIfInBounds_toArray, List.set_cons_zero, List.set_cons_succ])
      go_cut [17] (fun v17 wc => ∃ (kq : Nat) (x17_3 : Bool), v17 = .bool x17_3 ∧ Aside0 (lexer_skip.j1 kq a0 t103 x17_3 = some r) ∧ Aside0 (kq ≤ k1) ∧ Aside0 (Below w.heap.size w wc))
      case first =>
        have H := HC4.out
        clear HC4
        by_cases c6 : t103 = (a0.size : Int)
        · rw [if_pos c6] at H
          have c6b0 : (t103 == (a0.size : Int)) = true := beq_iff_eq.mpr c6
          have c6b1 : (t103 != (a0.size : Int)) = false := bne_eq_false_iff_eq.mpr c6
          clear c6
          (first | rw [c6b0] | (simp only [i64_w, i32_w]; rw [c6b0]) | skip)
          have H' := Aside0.mk H
          clear H
          go_wp2
          go_meet
          case rel => exact ⟨_, (true), (by first | rfl | (simp; done) | (simp [*]; done)), H', ⟨by have := HK1.out; first | omega | exact Nat.le_refl _⟩, ⟨by repeat (first | (with_reducible first | exact HB.out | apply below_alloc | apply pw_below_drewN | apply below_drew1) | exact HB.out)⟩⟩
        · rw [if_neg c6] at H
          have c6b0 : (t103 == (a0.size : Int)) = false := beq_eq_false_iff_ne.mpr c6
          have c6b1 : (t103 != (a0.size : Int)) = true := bne_iff_ne.mpr c6
          (first | rw [c6b0] | (simp only [i64_w, i32_w]; rw [c6b0]) | skip)
          by_cases c7 : 0 ≤ t103
          · rw [if_pos c7] at H
            have c7b0 : decide (0 ≤ t103) = true := decide_eq_true c7
            clear c7
            by_cases c8 : t103 < (a0.size : Int)
            · rw [if_pos c8] at H
              have c8b0 : decide (t103 < (a0.size : Int)) = true := decide_eq_true c8
              clear c8
              have H' := Aside0.mk H
              clear H
              have p9 : 0 ≤ (t103 : Int) := of_decide_eq_true (by first | (with_reducible assumption) | assumption)
              have q9 : t103 < (a0.size : Int) := of_decide_eq_true (by first | (with_reducible assumption) | assumption)
              have hx9 := bt_at a0 t103
              replace p9 := eq_true p9
              replace q9 := eq_true q9
              go_wp2
              go_meet
              case rel => exact ⟨_, (((bt a0 t103) != 35)), (by first | rfl | (simp; done) | (simp [*]; done)), H', ⟨by have := HK1.out; first | omega | exact Nat.le_refl _⟩, ⟨by repeat (first | (with_reducible first | exact HB.out | apply below_alloc | apply pw_below_drewN | apply below_drew1) | exact HB.out)⟩⟩
            · rw [if_neg c8] at H
              exact absurd H (by simp)
          · rw [if_neg c7] at H
            exact absurd H (by simp)
      case rest =>
        clear HC4
        try clear c2
        try clear p2
        try clear c6
        try clear c6b0
        try clear c6b1
        try clear c7
        try clear c7b0
        try clear c8
        try clear c8b0
        try clear p9
        try clear q9
        try clear hx9
        try clear p2
        try clear p9
        try clear q9
        obtain ⟨kq, x17_3, rfl, HA, HJ3, HB⟩ := hcut
        cases kq with
        | zero => exact absurd HA.out (by simp [lexer_skip.j1])
        | succ kj3 =>
          have H := HA.out
          clear HA
          simp only [lexer_skip.j1] at H
          by_cases c10 : x17_3 = true
          · subst c10
            have H1 : (some t103) = some r := by rw [if_pos rfl] at H; exact H
            clear H
            have H := H1
            clear H1
            obtain rfl := Option.some.inj H
            go_wp2
            go_ret
            exact ⟨by first | rfl | (simp [errW_none, errW_some] <;> rfl) | (simp [*, errW_none, errW_some] <;> rfl), by repeat (first | (with_reducible first | exact HB.out | apply below_alloc | apply pw_below_drewN | apply below_drew1) | exact HB.out)⟩
          · replace c10 := Bool.eq_false_iff.mpr c10
            subst c10
            have H1 : ((lexer_while_at_lexer_skip_1.f kj3 a0 t103).bind fun t104 => (lexer_skip.l0 kj3 a0 t104)) = some r := by rw [if_neg (show ¬ (false = true) by decide)] at H; exact H
            clear H
            have H := H1
            clear H1
            replace H := Option.bind_eq_some_iff.mp H
            obtain ⟨t104, A110, H⟩ := H
            replace H : (lexer_skip.l0 kj3 a0 t104) = some r := H
            have A11 := Aside0.mk A110
            clear A110
            have H' := Aside0.mk H
            clear H
            go_wp2_with (first | ((with_reducible refine gate_callee (f := 25) rfl ?_); refine goesL_ (some 21) rfl rfl Try.func25 (by kernel_rfl) rfl #[.string a0, .int .i64 t103, .func (.func 32) #[] #[]] rfl (by (try simp only [List.map_toArray, List.map_cons, List.map_nil]); first | done | rfl | (simp only [List.length_drop, List.length_take]; rfl)) ?_; (with_reducible refine (lexer_while_at_lexer_skip_1.calls kj3 a0 t103  t104 _ A11.out).mono ?_); rintro e w12 ⟨rfl, hb⟩; refine ⟨_, rfl, ?_⟩; have n0_ := Aside0.mk (below_step (by repeat (first | (with_reducible first | exact HB.out | apply below_alloc | apply pw_below_drewN | apply below_drew1) | exact HB.out)) hb); clear HB; have HB := n0_; clear n0_; (try clear hb); (try clear hb2); (try clear hk); (try clear hi)))
            go_roundg kj3
            case measure => have := HK1.out; have := HJ3.out; omega
            case rel => exact ⟨(t104), (by first | rfl | (simp; done) | (simp [*]; done)), H', ⟨by have := HK1.out; have := HJ3.out; omega⟩, ⟨by repeat (first | (with_reducible first | exact HB.out | apply below_alloc | apply pw_below_drewN | apply below_drew1) | exact HB.out)⟩⟩

/-! ### lexer_letter: function 26 -/
def lexer_letter.f (a0 : Int) : Option (Bool) := if a0 ≥ 97 then (if a0 ≤ 122 then (some true) else (if a0 ≥ 65 then (some (decide (a0 ≤ 90))) else (some false))) else (if a0 ≥ 65 then (some (decide (a0 ≤ 90))) else (some false))
set_option maxHeartbeats 6000000 in
set_option maxRecDepth 100000 in
theorem lexer_letter.calls (a0 : Int) (r : Bool) (w : World) (h : lexer_letter.f a0 = some r) :
    Calls Try.prog 26 #[.int .u8 a0] w fun e w' => e = .returned (.bool r) ∧ Drawn0 w w' := by
  have H : (if a0 ≥ 97 then (if a0 ≤ 122 then (some true) else (if a0 ≥ 65 then (some (decide (a0 ≤ 90))) else (some false))) else (if a0 ≥ 65 then (some (decide (a0 ≤ 90))) else (some false))) = some r := h
  clear h
  by_cases c2 : a0 ≥ 97
  · rw [if_pos c2] at H
    have c2b0 : decide (97 ≤ a0) = true := decide_eq_true c2
    clear c2
    by_cases c3 : a0 ≤ 122
    · rw [if_pos c3] at H
      have c3b0 : decide (a0 ≤ 122) = true := decide_eq_true c3
      clear c3
      obtain rfl := Option.some.inj H
      go_enter Try.func26, Try.ntmps26
      go_wp2
      go_ret
      exact ⟨by first | rfl | (simp; done) | (simp [*]; done), by repeat (first | exact Drawn0.refl _ | apply Drawn0.step)⟩
    · rw [if_neg c3] at H
      have c3b0 : decide (a0 ≤ 122) = false := decide_eq_false c3
      clear c3
      by_cases c4 : a0 ≥ 65
      · rw [if_pos c4] at H
        have c4b0 : decide (65 ≤ a0) = true := decide_eq_true c4
        clear c4
        obtain rfl := Option.some.inj H
        go_enter Try.func26, Try.ntmps26
        go_wp2
        go_ret
        exact ⟨by first | rfl | (simp; done) | (simp [*]; done), by repeat (first | exact Drawn0.refl _ | apply Drawn0.step)⟩
      · rw [if_neg c4] at H
        have c4b0 : decide (65 ≤ a0) = false := decide_eq_false c4
        clear c4
        obtain rfl := Option.some.inj H
        go_enter Try.func26, Try.ntmps26
        go_wp2
        go_ret
        exact ⟨by first | rfl | (simp; done) | (simp [*]; done), by repeat (first | exact Drawn0.refl _ | apply Drawn0.step)⟩
  · rw [if_neg c2] at H
    have c2b0 : decide (97 ≤ a0) = false := decide_eq_false c2
    clear c2
    by_cases c5 : a0 ≥ 65
    · rw [if_pos c5] at H
      have c5b0 : decide (65 ≤ a0) = true := decide_eq_true c5
      clear c5
      obtain rfl := Option.some.inj H
      go_enter Try.func26, Try.ntmps26
      go_wp2
      go_ret
      exact ⟨by first | rfl | (simp; done) | (simp [*]; done), by repeat (first | exact Drawn0.refl _ | apply Drawn0.step)⟩
    · rw [if_neg c5] at H
      have c5b0 : decide (65 ≤ a0) = false := decide_eq_false c5
      clear c5
      obtain rfl := Option.some.inj H
      go_enter Try.func26, Try.ntmps26
      go_wp2
      go_ret
      exact ⟨by first | rfl | (simp; done) | (simp [*]; done), by repeat (first | exact Drawn0.refl _ | apply Drawn0.step)⟩

/-! ### strings_Contains: function 27 -/
def strings_Contains.f (a0 : ByteArray) (a1 : ByteArray) : Option Bool := if a0.size < 4294967281 then some (Lib.contains a0.data.toList a1.data.toList) else none
theorem strings_Contains.calls (a0 : ByteArray) (a1 : ByteArray) (r : Bool) (w : World) (hshp : Shp w) (h : strings_Contains.f a0 a1 = some r) :
    Calls Try.prog 27 #[.string a0, .string a1] w fun e w' => e = .returned (.bool r) ∧ Drawn0 w w' := by
  unfold strings_Contains.f at h
  by_cases hs : a0.size < 4294967281
  · rw [if_pos hs] at h
    obtain ⟨m, hm⟩ := hshp
    refine (Try.strings_Contains a0 a1 m w hs hm).mono ?_
    rintro e w' ⟨rfl, rfl⟩
    exact ⟨by rw [Option.some.inj h], Drawn0.refl _⟩
  · rw [if_neg hs] at h; cases h

/-! ### lexer_digit: function 33 -/
def lexer_digit.f (a0 : Int) : Option (Bool) := if a0 ≥ 48 then (some (decide (a0 ≤ 57))) else (some false)
set_option maxHeartbeats 6000000 in
set_option maxRecDepth 100000 in
theorem lexer_digit.calls (a0 : Int) (r : Bool) (w : World) (h : lexer_digit.f a0 = some r) :
    Calls Try.prog 33 #[.int .u8 a0] w fun e w' => e = .returned (.bool r) ∧ Drawn0 w w' := by
  have H : (if a0 ≥ 48 then (some (decide (a0 ≤ 57))) else (some false)) = some r := h
  clear h
  by_cases c2 : a0 ≥ 48
  · rw [if_pos c2] at H
    have c2b0 : decide (48 ≤ a0) = true := decide_eq_true c2
    clear c2
    obtain rfl := Option.some.inj H
    go_enter Try.func33, Try.ntmps33
    go_wp2
    go_ret
    exact ⟨by first | rfl | (simp; done) | (simp [*]; done), by repeat (first | exact Drawn0.refl _ | apply Drawn0.step)⟩
  · rw [if_neg c2] at H
    have c2b0 : decide (48 ≤ a0) = false := decide_eq_false c2
    clear c2
    obtain rfl := Option.some.inj H
    go_enter Try.func33, Try.ntmps33
    go_wp2
    go_ret
    exact ⟨by first | rfl | (simp; done) | (simp [*]; done), by repeat (first | exact Drawn0.refl _ | apply Drawn0.step)⟩

/-! ### lexer_inside: function 28 -/
def lexer_inside.f (a0 : Int) : Option (Bool) := (lexer_letter.f a0).bind fun t105 => (if t105 = true then (some true) else ((lexer_digit.f a0).bind fun t106 => (if t106 = true then (some true) else (some (a0 == 95)))))
set_option maxHeartbeats 6000000 in
set_option maxRecDepth 100000 in
theorem lexer_inside.calls (a0 : Int) (r : Bool) (w : World) (h : lexer_inside.f a0 = some r) :
    Calls Try.prog 28 #[.int .u8 a0] w fun e w' => e = .returned (.bool r) ∧ Drawn0 w w' := by
  have H : ((lexer_letter.f a0).bind fun t105 => (if t105 = true then (some true) else ((lexer_digit.f a0).bind fun t106 => (if t106 = true then (some true) else (some (a0 == 95)))))) = some r := h
  clear h
  replace H := Option.bind_eq_some_iff.mp H
  obtain ⟨t105, A20, H⟩ := H
  replace H : (if t105 = true then (some true) else ((lexer_digit.f a0).bind fun t106 => (if t106 = true then (some true) else (some (a0 == 95))))) = some r := H
  have A2 := Aside0.mk A20
  clear A20
  by_cases c3 : t105 = true
  · subst c3
    have H1 : (some true) = some r := by rw [if_pos rfl] at H; exact H
    clear H
    have H := H1
    clear H1
    obtain rfl := Option.some.inj H
    go_enter Try.func28, Try.ntmps28
    go_wp2_with (first | ((with_reducible refine gate_callee (f := 26) rfl ?_); refine goesL_ (some 4) rfl rfl Try.func26 (by kernel_rfl) rfl #[.int .u8 a0] rfl (by (try simp only [List.map_toArray, List.map_cons, List.map_nil]); first | done | rfl | (simp only [List.length_drop, List.length_take]; rfl)) ?_; (with_reducible refine (lexer_letter.calls a0 true _ A2.out).mono ?_); rintro e w' ⟨rfl, ⟨nd, rfl⟩⟩; refine ⟨_, rfl, ?_⟩))
    go_ret
    exact ⟨by first | rfl | (simp; done) | (simp [*]; done), by repeat (first | exact Drawn0.refl _ | apply Drawn0.step)⟩
  · replace c3 := Bool.eq_false_iff.mpr c3
    subst c3
    have H1 : ((lexer_digit.f a0).bind fun t106 => (if t106 = true then (some true) else (some (a0 == 95)))) = some r := by rw [if_neg (show ¬ (false = true) by decide)] at H; exact H
    clear H
    have H := H1
    clear H1
    replace H := Option.bind_eq_some_iff.mp H
    obtain ⟨t106, A40, H⟩ := H
    replace H : (if t106 = true then (some true) else (some (a0 == 95))) = some r := H
    have A4 := Aside0.mk A40
    clear A40
    by_cases c5 : t106 = true
    · subst c5
      have H1 : (some true) = some r := by rw [if_pos rfl] at H; exact H
      clear H
      have H := H1
      clear H1
      obtain rfl := Option.some.inj H
      go_enter Try.func28, Try.ntmps28
      go_wp2_with (first | ((with_reducible refine gate_callee (f := 26) rfl ?_); refine goesL_ (some 4) rfl rfl Try.func26 (by kernel_rfl) rfl #[.int .u8 a0] rfl (by (try simp only [List.map_toArray, List.map_cons, List.map_nil]); first | done | rfl | (simp only [List.length_drop, List.length_take]; rfl)) ?_; (with_reducible refine (lexer_letter.calls a0 false _ A2.out).mono ?_); rintro e w' ⟨rfl, ⟨nd, rfl⟩⟩; refine ⟨_, rfl, ?_⟩) | (go_at_call 33; (with_reducible refine (lexer_digit.calls a0 true _ A4.out).mono ?_); rintro e w' ⟨rfl, ⟨nd, rfl⟩⟩))
      go_ret
      exact ⟨by first | rfl | (simp; done) | (simp [*]; done), by repeat (first | exact Drawn0.refl _ | apply Drawn0.step)⟩
    · replace c5 := Bool.eq_false_iff.mpr c5
      subst c5
      have H1 : (some (a0 == 95)) = some r := by rw [if_neg (show ¬ (false = true) by decide)] at H; exact H
      clear H
      have H := H1
      clear H1
      obtain rfl := Option.some.inj H
      go_enter Try.func28, Try.ntmps28
      go_wp2_with (first | ((with_reducible refine gate_callee (f := 26) rfl ?_); refine goesL_ (some 4) rfl rfl Try.func26 (by kernel_rfl) rfl #[.int .u8 a0] rfl (by (try simp only [List.map_toArray, List.map_cons, List.map_nil]); first | done | rfl | (simp only [List.length_drop, List.length_take]; rfl)) ?_; (with_reducible refine (lexer_letter.calls a0 false _ A2.out).mono ?_); rintro e w' ⟨rfl, ⟨nd, rfl⟩⟩; refine ⟨_, rfl, ?_⟩) | (go_at_call 33; (with_reducible refine (lexer_digit.calls a0 false _ A4.out).mono ?_); rintro e w' ⟨rfl, ⟨nd, rfl⟩⟩))
      go_ret
      exact ⟨by first | rfl | (simp; done) | (simp [*]; done), by repeat (first | exact Drawn0.refl _ | apply Drawn0.step)⟩

/-! ### lexer_number: function 34 -/
def lexer_number.l : List UInt8 → Int → Option (Int × Int)
  | [], n => some (n, 0)
  | c :: cs, n => if 10 * n + ((c.toNat : Int) - 48) % 256 > 1073741824 then some (0, 2) else lexer_number.l cs (10 * n + ((c.toNat : Int) - 48) % 256)
def lexer_number.f (a0 : ByteArray) : Option (Int × Int) :=
  if 0 < (a0.size : Int) then (if a0.size ≤ 4294967296 then (if bt a0 0 = 48 then (if (a0.size : Int) > 1 then some (0, 2) else lexer_number.l a0.data.toList 0) else lexer_number.l a0.data.toList 0) else none) else none
theorem lexer_number.byte (l : List UInt8) (j : Nat) : 0 ≤ ((l.getD j 0).toNat : Int) ∧ ((l.getD j 0).toNat : Int) ≤ 255 := ⟨by omega, by have := (l.getD j 0).toNat_lt; omega⟩
set_option maxHeartbeats 8000000 in
set_option maxRecDepth 100000 in
theorem lexer_number.calls (a0 : ByteArray) (r1 : Int) (r2 : Int) (w : World) (h : lexer_number.f a0 = some (r1, r2)) :
    Calls Try.prog 34 #[.string a0] w fun e w' => e = .returned (.tuple #[.int .i64 r1, .int .i64 r2]) ∧ Below w.heap.size w w' := by
  unfold lexer_number.f at h
  have kb := fun W => print_bytes (P := Try.prog) 9 34 5 Try.underlying9 Try.underlying34 Try.underlying5 a0 W
  by_cases h0 : 0 < (a0.size : Int)
  case neg => rw [if_neg h0] at h; cases h
  rw [if_pos h0] at h
  by_cases hs : a0.size ≤ 4294967296
  case neg => rw [if_neg hs] at h; cases h
  rw [if_pos hs] at h
  have q5 : 0 < a0.size := by omega
  have qi5 : (0 < (a0.size : Int)) = True := eq_true h0
  have hx5 : ∀ h : 0 < a0.size, ((a0[0]'h).toNat : Int) = bt a0 0 := bt_at a0 0
  have hl : a0.data.toList.length = a0.size := data_length a0
  have HL := Aside0.mk hl
  clear hl
  by_cases h1 : bt a0 0 = 48 ∧ (a0.size : Int) > 1
  · rw [if_pos h1.1, if_pos h1.2] at h
    have c1 : ((bt a0 0) == 48) = true := beq_iff_eq.mpr h1.1
    have c2 : decide (1 < (a0.size : Int)) = true := decide_eq_true h1.2
    have c3 : decide (1 < a0.size) = true := decide_eq_true (by omega)
    simp only [Option.some.injEq, Prod.mk.injEq] at h
    obtain ⟨rfl, rfl⟩ := h
    clear h1 h0
    go_enter Try.func34, Try.ntmps34
    go_wp2
    go_ret2
    exact ⟨rfl, Below.refl _ _⟩
  · have h2 : lexer_number.l a0.data.toList 0 = some (r1, r2) := by
      by_cases h3 : bt a0 0 = 48
      · rw [if_pos h3, if_neg (fun h4 => h1 ⟨h3, h4⟩)] at h; exact h
      · rw [if_neg h3] at h; exact h
    have c : (((bt a0 0) == 48) = false) ∨ (((bt a0 0) == 48) = true ∧ decide (1 < (a0.size : Int)) = false ∧ decide (1 < a0.size) = false) := by
      by_cases h3 : bt a0 0 = 48
      · exact .inr ⟨beq_iff_eq.mpr h3, decide_eq_false (fun h4 => h1 ⟨h3, h4⟩), decide_eq_false (fun h4 => h1 ⟨h3, by omega⟩)⟩
      · exact .inl (beq_eq_false_iff_ne.mpr h3)
    have H := Aside0.mk h2
    clear h1 h0 h h2
    go_enter Try.func34, Try.ntmps34
    rcases c with c1 | ⟨c1, c2, c3⟩
    all_goals
      go_wp2
      (try clear c1)
      (try clear c2)
      (try clear c3)
      clear hx5 kb q5 qi5
      go_loop [4, 18] (fun n i => ∃ (j : Nat) (m : Int), j ≤ a0.size ∧ n = .int .i64 m ∧ i = .int .i64 j ∧ 0 ≤ m ∧ m ≤ 1073741824 ∧ Aside0 (lexer_number.l (a0.data.toList.drop j) m = some (r1, r2))) (fun _ i => a0.size - (intOf i).toNat)
      case atStart => exact ⟨0, 0, Nat.zero_le _, rfl, rfl, by omega, by omega, ⟨H.out⟩⟩
      case round =>
        obtain ⟨j, m, hj, rfl, rfl, hm0, hm1, HR⟩ := hrel
        by_cases hlt : j < a0.size
        · have hd : a0.data.toList.drop j = a0.data.toList.getD j 0 :: a0.data.toList.drop (j + 1) := by
            have := HL.out
            rw [List.drop_eq_getElem_cons (by omega)]
            simp [List.getD_eq_getElem?_getD, List.getElem?_eq_getElem (show j < a0.data.toList.length by omega)]
          have hcell := Lib.bytesWorld_cell w 5 a0 j hlt
          have hb := lexer_number.byte a0.data.toList j
          have hr := HR.out
          rw [hd] at hr
          have hr2 : (if 10 * m + ((((a0.data.toList.getD j 0).toNat : Nat) : Int) - 48) % 256 > 1073741824 then some (0, 2) else lexer_number.l (a0.data.toList.drop (j + 1)) (10 * m + ((((a0.data.toList.getD j 0).toNat : Nat) : Int) - 48) % 256)) = some (r1, r2) := hr
          generalize hg : (((a0.data.toList.getD j 0).toNat : Nat) : Int) = b at hr2 hb hcell
          clear hd hr hg HR
          by_cases hgt : 10 * m + (b - 48) % 256 > 1073741824
          · rw [if_pos hgt] at hr2
            simp only [Option.some.injEq, Prod.mk.injEq] at hr2
            obtain ⟨rfl, rfl⟩ := hr2
            have hlt2 : decide ((j : Int) < (a0.size : Int)) = true := decide_eq_true (by omega)
            have hgt2 : decide (1073741824 < 10 * m + (b - 48) % 256) = true := decide_eq_true hgt
            go_wp2
            go_ret2
            exact ⟨rfl, bytes_below (Below.refl _ _) (Nat.le_refl _) _ _⟩
          · rw [if_neg hgt] at hr2
            have hgt2 : decide (1073741824 < 10 * m + (b - 48) % 256) = false := decide_eq_false hgt
            have HR2 := Aside0.mk hr2
            clear hr2
            go_wp2
            go_round
            case rel => exact ⟨j + 1, 10 * m + (b - 48) % 256, by omega, rfl, by go_num, by omega, by omega, HR2⟩
            case measure => simp [intOf]; omega
        · have hj2 : j = a0.size := by omega
          have hr := HR.out
          rw [List.drop_of_length_le (by have := HL.out; omega)] at hr
          have hr2 : some (m, (0 : Int)) = some (r1, r2) := hr
          simp only [Option.some.injEq, Prod.mk.injEq] at hr2
          obtain ⟨rfl, rfl⟩ := hr2
          clear hr HR
          go_wp2
          go_ret2
          exact ⟨rfl, bytes_below (Below.refl _ _) (Nat.le_refl _) _ _⟩

/-! ### strings_ContainsRune: function 35 -/
def strings_ContainsRune.f (a0 : ByteArray) (a1 : Int) : Option Bool := if 0 ≤ a1 then if a1 < 128 then some (decide (0 ≤ Lib.indexByte a0.data.toList a1.toNat.toUInt8)) else none else none
theorem strings_ContainsRune.calls (a0 : ByteArray) (a1 : Int) (r : Bool) (w : World) (h : strings_ContainsRune.f a0 a1 = some r) :
    Calls Try.prog 35 #[.string a0, .int .i32 a1] w fun e w' => e = .returned (.bool r) ∧ Drawn0 w w' := by
  unfold strings_ContainsRune.f at h
  by_cases h0 : 0 ≤ a1
  · rw [if_pos h0] at h
    by_cases h1 : a1 < 128
    · rw [if_pos h1] at h
      refine (Try.strings_ContainsRune_ascii a0 a1 w h0 h1).mono ?_
      rintro e w' ⟨rfl, rfl⟩
      exact ⟨by rw [Option.some.inj h], Drawn0.refl _⟩
    · rw [if_neg h1] at h; cases h
  · rw [if_neg h0] at h; cases h

/-! ### strings_IndexByte: function 36 -/
def strings_IndexByte.f (a0 : ByteArray) (a1 : Int) : Option Int := some (Lib.indexByte a0.data.toList a1.toNat.toUInt8)
theorem strings_IndexByte.calls (a0 : ByteArray) (a1 : Int) (r : Int) (w : World) (h : strings_IndexByte.f a0 a1 = some r) :
    Calls Try.prog 36 #[.string a0, .int .u8 a1] w fun e w' => e = .returned (.int .i64 r) ∧ Drawn0 w w' := by
  refine (Try.strings_IndexByte a0 a1 w).mono ?_
  rintro e w' ⟨rfl, rfl⟩
  exact ⟨by rw [Option.some.inj h], Drawn0.refl _⟩

end Go.Proofs.Ytanickojbgceaaa.P
