-- made by a program of mine (wip/tools/pp.py over the kit's print)
import Derived.Test.YtanickojbgceaaaP0
import Derived.Test.YtanickojbgceaaaP2
namespace Go.Proofs.Ytanickojbgceaaa.P
open Go.RowKit Go.Proofs.YtanickojbgceaaaW.PrintWords Go.Proofs.YtanickojbgceaaaW.PrintLast Go.Proofs.YtanickojbgceaaaW.PrintMore
attribute [local go_sem] max2_int min2_int max_two min_two max_three min_three max_four min_four   -- for this text's walks alone
set_option linter.unusedVariables false
set_option linter.unusedSimpArgs false

/-! ### lexer_while_at_lexer_inside: function 25 -/
mutual
def lexer_while_at_lexer_inside.l0 : Nat → ByteArray → Int → Option (Int)
  | 0, _, _ => none
  | k + 1, x0, x1 => if x1 < (x0.size : Int) then (if 0 ≤ x1 then ((lexer_inside.f (bt x0 x1)).bind fun t107 => (lexer_while_at_lexer_inside.j1 k x0 x1 t107)) else (none)) else (lexer_while_at_lexer_inside.j1 k x0 x1 false)
def lexer_while_at_lexer_inside.j1 : Nat → ByteArray → Int → Bool → Option (Int)
  | 0, _, _, _ => none
  | k + 1, x0, x1, x17 => if x17 = true then (lexer_while_at_lexer_inside.l0 k x0 (wrap64 (x1 + 1))) else (some x1)
end
def lexer_while_at_lexer_inside.f (k : Nat) (a0 : ByteArray) (a1 : Int)  : Option (Int) := lexer_while_at_lexer_inside.l0 k a0 a1
theorem lexer_while_at_lexer_inside.mono_l : ∀ k, (∀ y0 y1, LeO (lexer_while_at_lexer_inside.l0 k y0 y1) (lexer_while_at_lexer_inside.l0 (k + 1) y0 y1)) ∧ (∀ y0 y1 y2, LeO (lexer_while_at_lexer_inside.j1 k y0 y1 y2) (lexer_while_at_lexer_inside.j1 (k + 1) y0 y1 y2))
  | 0 => ⟨fun _ _ r h => by simp [lexer_while_at_lexer_inside.l0] at h, fun _ _ _ r h => by simp [lexer_while_at_lexer_inside.j1] at h⟩
  | k + 1 => by
    obtain ⟨ih0, ih1⟩ := lexer_while_at_lexer_inside.mono_l k
    refine ⟨?_, ?_⟩
    · intro y0 y1
      unfold lexer_while_at_lexer_inside.l0
      repeat' first
      | (with_reducible exact ih0 _ _)
      | (with_reducible exact ih1 _ _ _)
      | (with_reducible exact LeO.refl _)
      | (with_reducible exact LeO.none _)
      | (with_reducible refine LeO.ite ?_ ?_)
      | (with_reducible refine LeO.bind ?_ (fun _ => ?_))
      | exact ih0 _ _
      | exact ih1 _ _ _
      | exact LeO.none _
      | refine LeO.ite ?_ ?_
      | refine LeO.bind ?_ (fun _ => ?_)
    · intro y0 y1 y2
      unfold lexer_while_at_lexer_inside.j1
      repeat' first
      | (with_reducible exact ih0 _ _)
      | (with_reducible exact ih1 _ _ _)
      | (with_reducible exact LeO.refl _)
      | (with_reducible exact LeO.none _)
      | (with_reducible refine LeO.ite ?_ ?_)
      | (with_reducible refine LeO.bind ?_ (fun _ => ?_))
      | exact ih0 _ _
      | exact ih1 _ _ _
      | exact LeO.none _
      | refine LeO.ite ?_ ?_
      | refine LeO.bind ?_ (fun _ => ?_)
theorem lexer_while_at_lexer_inside.mono : ∀ a0 a1 k, LeO (lexer_while_at_lexer_inside.f k a0 a1) (lexer_while_at_lexer_inside.f (k + 1) a0 a1) := by
  intro a0 a1 k
  obtain ⟨ih0, ih1⟩ := lexer_while_at_lexer_inside.mono_l k
  unfold lexer_while_at_lexer_inside.f
  repeat' first
      | (with_reducible exact ih0 _ _)
      | (with_reducible exact ih1 _ _ _)
      | (with_reducible exact LeO.refl _)
      | (with_reducible exact LeO.none _)
      | (with_reducible refine LeO.ite ?_ ?_)
      | (with_reducible refine LeO.bind ?_ (fun _ => ?_))
      | exact ih0 _ _
      | exact ih1 _ _ _
      | exact LeO.none _
      | refine LeO.ite ?_ ?_
      | refine LeO.bind ?_ (fun _ => ?_)
set_option maxHeartbeats 6000000 in
set_option maxRecDepth 100000 in
theorem lexer_while_at_lexer_inside.calls (k : Nat) (a0 : ByteArray) (a1 : Int)  (r : Int) (w : World) (h : lexer_while_at_lexer_inside.f k a0 a1 = some r) :
    Calls Try.prog 25 #[.string a0, .int .i64 a1, .func (.func 28) #[] #[]] w fun e w' => e = .returned (.int .i64 r) ∧ Below w.heap.size w w' := by
  have HB := Aside0.mk (Below.refl w.heap.size w)
  have H : (lexer_while_at_lexer_inside.l0 k a0 a1) = some r := h
  clear h
  have H' := Aside0.mk H
  clear H
  go_enter Try.func25, Try.ntmps25
  go_wp2
  go_loopg [1] k (fun kq v1 w' => ∃ (x1_1 : Int), v1 = .int .i64 x1_1 ∧ Aside0 (lexer_while_at_lexer_inside.l0 kq a0 x1_1 = some r) ∧ Aside0 (kq ≤ k) ∧ Aside0 (Below w.heap.size w w'))
  case atStart => exact ⟨(a1), (by first | rfl | (simp; done) | (simp [*]; done)), H', ⟨Nat.le_refl _⟩, ⟨by repeat (first | (with_reducible first | exact HB.out | apply below_alloc | apply pw_below_drewN | apply below_drew1) | exact HB.out)⟩⟩
  case round =>
    clear H'
    try clear p2
    obtain ⟨x1_1, rfl, HA, HK1, HB⟩ := hrel
    cases gk with
    | zero => exact absurd HA.out (by simp [lexer_while_at_lexer_inside.l0])
    | succ k1 =>
      have H := HA.out
      clear HA
      simp only [lexer_while_at_lexer_inside.l0] at H
      have HC4 := Aside0.mk H
      clear H
      go_upto_region 1 with (fail)
      go_cut [17] (fun v17 wc => ∃ (kq : Nat) (x17_3 : Bool), v17 = .bool x17_3 ∧ Aside0 (lexer_while_at_lexer_inside.j1 kq a0 x1_1 x17_3 = some r) ∧ Aside0 (kq ≤ k1) ∧ Aside0 (Below w.heap.size w wc))
      case first =>
        have H := HC4.out
        clear HC4
        by_cases c5 : x1_1 < (a0.size : Int)
        · rw [if_pos c5] at H
          have c5b0 : decide (x1_1 < (a0.size : Int)) = true := decide_eq_true c5
          clear c5
          (first | rw [c5b0] | (simp only [i64_w, i32_w]; rw [c5b0]) | skip)
          by_cases c6 : 0 ≤ x1_1
          · rw [if_pos c6] at H
            have c6b0 : decide (0 ≤ x1_1) = true := decide_eq_true c6
            clear c6
            replace H := Option.bind_eq_some_iff.mp H
            obtain ⟨t107, A80, H⟩ := H
            replace H : (lexer_while_at_lexer_inside.j1 k1 a0 x1_1 t107) = some r := H
            have A8 := Aside0.mk A80
            clear A80
            have H' := Aside0.mk H
            clear H
            have p7 : 0 ≤ (x1_1 : Int) := of_decide_eq_true (by first | (with_reducible assumption) | assumption)
            have q7 : x1_1 < (a0.size : Int) := of_decide_eq_true (by first | (with_reducible assumption) | assumption)
            have hx7 := bt_at a0 x1_1
            replace p7 := eq_true p7
            replace q7 := eq_true q7
            go_wp2_with (first | (go_at_call 28; (with_reducible refine (lexer_inside.calls (bt a0 x1_1) t107 _ A8.out).mono ?_); rintro e w' ⟨rfl, ⟨nd, rfl⟩⟩))
            go_meet
            case rel => exact ⟨_, (t107), (by first | rfl | (simp; done) | (simp [*]; done)), H', ⟨by have := HK1.out; first | omega | exact Nat.le_refl _⟩, ⟨by repeat (first | (with_reducible first | exact HB.out | apply below_alloc | apply pw_below_drewN | apply below_drew1) | exact HB.out)⟩⟩
          · rw [if_neg c6] at H
            exact absurd H (by simp)
        · rw [if_neg c5] at H
          have c5b0 : decide (x1_1 < (a0.size : Int)) = false := decide_eq_false c5
          clear c5
          (first | rw [c5b0] | (simp only [i64_w, i32_w]; rw [c5b0]) | skip)
          have H' := Aside0.mk H
          clear H
          go_wp2
          go_meet
          case rel => exact ⟨_, (false), (by first | rfl | (simp; done) | (simp [*]; done)), H', ⟨by have := HK1.out; first | omega | exact Nat.le_refl _⟩, ⟨by repeat (first | (with_reducible first | exact HB.out | apply below_alloc | apply pw_below_drewN | apply below_drew1) | exact HB.out)⟩⟩
      case rest =>
        clear HC4
        try clear p2
        try clear c5
        try clear c5b0
        try clear c6
        try clear c6b0
        try clear c7
        try clear p7
        try clear q7
        try clear hx7
        try clear p2
        try clear p7
        try clear q7
        obtain ⟨kq, x17_3, rfl, HA, HJ3, HB⟩ := hcut
        cases kq with
        | zero => exact absurd HA.out (by simp [lexer_while_at_lexer_inside.j1])
        | succ kj3 =>
          have H := HA.out
          clear HA
          simp only [lexer_while_at_lexer_inside.j1] at H
          by_cases c9 : x17_3 = true
          · subst c9
            have H1 : (lexer_while_at_lexer_inside.l0 kj3 a0 (wrap64 (x1_1 + 1))) = some r := by rw [if_pos rfl] at H; exact H
            clear H
            have H := H1
            clear H1
            have H' := Aside0.mk H
            clear H
            go_wp2
            go_roundg kj3
            case measure => have := HK1.out; have := HJ3.out; omega
            case rel => exact ⟨(wrap64 (x1_1 + 1)), (by first | rfl | (simp; done) | (simp [*]; done)), H', ⟨by have := HK1.out; have := HJ3.out; omega⟩, ⟨by repeat (first | (with_reducible first | exact HB.out | apply below_alloc | apply pw_below_drewN | apply below_drew1) | exact HB.out)⟩⟩
          · replace c9 := Bool.eq_false_iff.mpr c9
            subst c9
            have H1 : (some x1_1) = some r := by rw [if_neg (show ¬ (false = true) by decide)] at H; exact H
            clear H
            have H := H1
            clear H1
            obtain rfl := Option.some.inj H
            go_wp2
            go_ret
            exact ⟨by first | rfl | (simp [errW_none, errW_some] <;> rfl) | (simp [*, errW_none, errW_some] <;> rfl), by repeat (first | (with_reducible first | exact HB.out | apply below_alloc | apply pw_below_drewN | apply below_drew1) | exact HB.out)⟩

/-! ### lexer_while_at_lexer_digit: function 25 -/
mutual
def lexer_while_at_lexer_digit.l0 : Nat → ByteArray → Int → Option (Int)
  | 0, _, _ => none
  | k + 1, x0, x1 => if x1 < (x0.size : Int) then (if 0 ≤ x1 then ((lexer_digit.f (bt x0 x1)).bind fun t108 => (lexer_while_at_lexer_digit.j1 k x0 x1 t108)) else (none)) else (lexer_while_at_lexer_digit.j1 k x0 x1 false)
def lexer_while_at_lexer_digit.j1 : Nat → ByteArray → Int → Bool → Option (Int)
  | 0, _, _, _ => none
  | k + 1, x0, x1, x17 => if x17 = true then (lexer_while_at_lexer_digit.l0 k x0 (wrap64 (x1 + 1))) else (some x1)
end
def lexer_while_at_lexer_digit.f (k : Nat) (a0 : ByteArray) (a1 : Int)  : Option (Int) := lexer_while_at_lexer_digit.l0 k a0 a1
theorem lexer_while_at_lexer_digit.mono_l : ∀ k, (∀ y0 y1, LeO (lexer_while_at_lexer_digit.l0 k y0 y1) (lexer_while_at_lexer_digit.l0 (k + 1) y0 y1)) ∧ (∀ y0 y1 y2, LeO (lexer_while_at_lexer_digit.j1 k y0 y1 y2) (lexer_while_at_lexer_digit.j1 (k + 1) y0 y1 y2))
  | 0 => ⟨fun _ _ r h => by simp [lexer_while_at_lexer_digit.l0] at h, fun _ _ _ r h => by simp [lexer_while_at_lexer_digit.j1] at h⟩
  | k + 1 => by
    obtain ⟨ih0, ih1⟩ := lexer_while_at_lexer_digit.mono_l k
    refine ⟨?_, ?_⟩
    · intro y0 y1
      unfold lexer_while_at_lexer_digit.l0
      repeat' first
      | (with_reducible exact ih0 _ _)
      | (with_reducible exact ih1 _ _ _)
      | (with_reducible exact LeO.refl _)
      | (with_reducible exact LeO.none _)
      | (with_reducible refine LeO.ite ?_ ?_)
      | (with_reducible refine LeO.bind ?_ (fun _ => ?_))
      | exact ih0 _ _
      | exact ih1 _ _ _
      | exact LeO.none _
      | refine LeO.ite ?_ ?_
      | refine LeO.bind ?_ (fun _ => ?_)
    · intro y0 y1 y2
      unfold lexer_while_at_lexer_digit.j1
      repeat' first
      | (with_reducible exact ih0 _ _)
      | (with_reducible exact ih1 _ _ _)
      | (with_reducible exact LeO.refl _)
      | (with_reducible exact LeO.none _)
      | (with_reducible refine LeO.ite ?_ ?_)
      | (with_reducible refine LeO.bind ?_ (fun _ => ?_))
      | exact ih0 _ _
      | exact ih1 _ _ _
      | exact LeO.none _
      | refine LeO.ite ?_ ?_
      | refine LeO.bind ?_ (fun _ => ?_)
theorem lexer_while_at_lexer_digit.mono : ∀ a0 a1 k, LeO (lexer_while_at_lexer_digit.f k a0 a1) (lexer_while_at_lexer_digit.f (k + 1) a0 a1) := by
  intro a0 a1 k
  obtain ⟨ih0, ih1⟩ := lexer_while_at_lexer_digit.mono_l k
  unfold lexer_while_at_lexer_digit.f
  repeat' first
      | (with_reducible exact ih0 _ _)
      | (with_reducible exact ih1 _ _ _)
      | (with_reducible exact LeO.refl _)
      | (with_reducible exact LeO.none _)
      | (with_reducible refine LeO.ite ?_ ?_)
      | (with_reducible refine LeO.bind ?_ (fun _ => ?_))
      | exact ih0 _ _
      | exact ih1 _ _ _
      | exact LeO.none _
      | refine LeO.ite ?_ ?_
      | refine LeO.bind ?_ (fun _ => ?_)
set_option maxHeartbeats 6000000 in
set_option maxRecDepth 100000 in
theorem lexer_while_at_lexer_digit.calls (k : Nat) (a0 : ByteArray) (a1 : Int)  (r : Int) (w : World) (h : lexer_while_at_lexer_digit.f k a0 a1 = some r) :
    Calls Try.prog 25 #[.string a0, .int .i64 a1, .func (.func 33) #[] #[]] w fun e w' => e = .returned (.int .i64 r) ∧ Below w.heap.size w w' := by
  have HB := Aside0.mk (Below.refl w.heap.size w)
  have H : (lexer_while_at_lexer_digit.l0 k a0 a1) = some r := h
  clear h
  have H' := Aside0.mk H
  clear H
  go_enter Try.func25, Try.ntmps25
  go_wp2
  go_loopg [1] k (fun kq v1 w' => ∃ (x1_1 : Int), v1 = .int .i64 x1_1 ∧ Aside0 (lexer_while_at_lexer_digit.l0 kq a0 x1_1 = some r) ∧ Aside0 (kq ≤ k) ∧ Aside0 (Below w.heap.size w w'))
  case atStart => exact ⟨(a1), (by first | rfl | (simp; done) | (simp [*]; done)), H', ⟨Nat.le_refl _⟩, ⟨by repeat (first | (with_reducible first | exact HB.out | apply below_alloc | apply pw_below_drewN | apply below_drew1) | exact HB.out)⟩⟩
  case round =>
    clear H'
    try clear p2
    obtain ⟨x1_1, rfl, HA, HK1, HB⟩ := hrel
    cases gk with
    | zero => exact absurd HA.out (by simp [lexer_while_at_lexer_digit.l0])
    | succ k1 =>
      have H := HA.out
      clear HA
      simp only [lexer_while_at_lexer_digit.l0] at H
      have HC4 := Aside0.mk H
      clear H
      go_upto_region 1 with (fail)
      go_cut [17] (fun v17 wc => ∃ (kq : Nat) (x17_3 : Bool), v17 = .bool x17_3 ∧ Aside0 (lexer_while_at_lexer_digit.j1 kq a0 x1_1 x17_3 = some r) ∧ Aside0 (kq ≤ k1) ∧ Aside0 (Below w.heap.size w wc))
      case first =>
        have H := HC4.out
        clear HC4
        by_cases c5 : x1_1 < (a0.size : Int)
        · rw [if_pos c5] at H
          have c5b0 : decide (x1_1 < (a0.size : Int)) = true := decide_eq_true c5
          clear c5
          (first | rw [c5b0] | (simp only [i64_w, i32_w]; rw [c5b0]) | skip)
          by_cases c6 : 0 ≤ x1_1
          · rw [if_pos c6] at H
            have c6b0 : decide (0 ≤ x1_1) = true := decide_eq_true c6
            clear c6
            replace H := Option.bind_eq_some_iff.mp H
            obtain ⟨t108, A80, H⟩ := H
            replace H : (lexer_while_at_lexer_digit.j1 k1 a0 x1_1 t108) = some r := H
            have A8 := Aside0.mk A80
            clear A80
            have H' := Aside0.mk H
            clear H
            have p7 : 0 ≤ (x1_1 : Int) := of_decide_eq_true (by first | (with_reducible assumption) | assumption)
            have q7 : x1_1 < (a0.size : Int) := of_decide_eq_true (by first | (with_reducible assumption) | assumption)
            have hx7 := bt_at a0 x1_1
            replace p7 := eq_true p7
            replace q7 := eq_true q7
            go_wp2_with (first | (go_at_call 33; (with_reducible refine (lexer_digit.calls (bt a0 x1_1) t108 _ A8.out).mono ?_); rintro e w' ⟨rfl, ⟨nd, rfl⟩⟩))
            go_meet
            case rel => exact ⟨_, (t108), (by first | rfl | (simp; done) | (simp [*]; done)), H', ⟨by have := HK1.out; first | omega | exact Nat.le_refl _⟩, ⟨by repeat (first | (with_reducible first | exact HB.out | apply below_alloc | apply pw_below_drewN | apply below_drew1) | exact HB.out)⟩⟩
          · rw [if_neg c6] at H
            exact absurd H (by simp)
        · rw [if_neg c5] at H
          have c5b0 : decide (x1_1 < (a0.size : Int)) = false := decide_eq_false c5
          clear c5
          (first | rw [c5b0] | (simp only [i64_w, i32_w]; rw [c5b0]) | skip)
          have H' := Aside0.mk H
          clear H
          go_wp2
          go_meet
          case rel => exact ⟨_, (false), (by first | rfl | (simp; done) | (simp [*]; done)), H', ⟨by have := HK1.out; first | omega | exact Nat.le_refl _⟩, ⟨by repeat (first | (with_reducible first | exact HB.out | apply below_alloc | apply pw_below_drewN | apply below_drew1) | exact HB.out)⟩⟩
      case rest =>
        clear HC4
        try clear p2
        try clear c5
        try clear c5b0
        try clear c6
        try clear c6b0
        try clear c7
        try clear p7
        try clear q7
        try clear hx7
        try clear p2
        try clear p7
        try clear q7
        obtain ⟨kq, x17_3, rfl, HA, HJ3, HB⟩ := hcut
        cases kq with
        | zero => exact absurd HA.out (by simp [lexer_while_at_lexer_digit.j1])
        | succ kj3 =>
          have H := HA.out
          clear HA
          simp only [lexer_while_at_lexer_digit.j1] at H
          by_cases c9 : x17_3 = true
          · subst c9
            have H1 : (lexer_while_at_lexer_digit.l0 kj3 a0 (wrap64 (x1_1 + 1))) = some r := by rw [if_pos rfl] at H; exact H
            clear H
            have H := H1
            clear H1
            have H' := Aside0.mk H
            clear H
            go_wp2
            go_roundg kj3
            case measure => have := HK1.out; have := HJ3.out; omega
            case rel => exact ⟨(wrap64 (x1_1 + 1)), (by first | rfl | (simp; done) | (simp [*]; done)), H', ⟨by have := HK1.out; have := HJ3.out; omega⟩, ⟨by repeat (first | (with_reducible first | exact HB.out | apply below_alloc | apply pw_below_drewN | apply below_drew1) | exact HB.out)⟩⟩
          · replace c9 := Bool.eq_false_iff.mpr c9
            subst c9
            have H1 : (some x1_1) = some r := by rw [if_neg (show ¬ (false = true) by decide)] at H; exact H
            clear H
            have H := H1
            clear H1
            obtain rfl := Option.some.inj H
            go_wp2
            go_ret
            exact ⟨by first | rfl | (simp [errW_none, errW_some] <;> rfl) | (simp [*, errW_none, errW_some] <;> rfl), by repeat (first | (with_reducible first | exact HB.out | apply below_alloc | apply pw_below_drewN | apply below_drew1) | exact HB.out)⟩

/-! ### lexer_next: function 22 -/
def lexer_next.j0 : Nat → Int → Int → Bool → Int → Int → Int → Int → Option (Int × Int × Int × Int × Int)
  | 0, _, _, _, _, _, _, _ => none
  | k + 1, x1, x7, x51, x111000, x111001, x111002, x111003 => if x51 = true then (some (3, x111001, wrap64 (x1 + 2), x111003, 0)) else ((strings_IndexByte.f (⟨#[59, 58, 44, 40, 41, 46, 63, 60, 62, 43, 45, 42, 47, 37, 33]⟩ : ByteArray) x7).bind fun t119 => (if t119 ≥ 0 then (some (3, x111001, wrap64 (x1 + 1), x111003, 0)) else (some (x111000, x111001, x111002, x111003, 4))))
def lexer_next.f (k : Nat) (a0 : ByteArray) (a1 : Int) : Option (Int × Int × Int × Int × Int) := if 0 ≤ a1 then (if a1 < (a0.size : Int) then ((lexer_letter.f (bt a0 a1)).bind fun t111 => (if t111 = true then ((lexer_while_at_lexer_inside.f k a0 a1).bind fun t112 => (if (wrap64 (t112 - a1)) > 24 then (some (1, a1, t112, 0, 5)) else (some (1, a1, t112, 0, 0)))) else ((lexer_digit.f (bt a0 a1)).bind fun t113 => (if t113 = true then ((lexer_while_at_lexer_digit.f k a0 a1).bind fun t114 => (if a1 ≤ t114 then (if t114 ≤ (a0.size : Int) then ((lexer_number.f (a0.extract (a1 : Int).toNat (t114 : Int).toNat)).bind fun bt115 => (if bt115.2 = 0 then (some (2, a1, t114, bt115.1, 0)) else (some (2, a1, t114, bt115.1, bt115.2)))) else (none)) else (none))) else (if (wrap64 (a1 + 2)) ≤ (a0.size : Int) then (if a1 ≤ (wrap64 (a1 + 2)) then ((strings_ContainsRune.f (a0.extract (a1 : Int).toNat ((wrap64 (a1 + 2)) : Int).toNat) 32).bind fun t117 => (if t117 = true then (lexer_next.j0 k a1 (bt a0 a1) false 0 a1 0 0) else (if 1 + (a0.extract (a1 : Int).toNat ((wrap64 (a1 + 2)) : Int).toNat).size ≤ 9223372036854775807 then (if ((⟨#[32]⟩ : ByteArray) ++ (a0.extract (a1 : Int).toNat ((wrap64 (a1 + 2)) : Int).toNat)).size + 1 ≤ 9223372036854775807 then ((strings_Contains.f (⟨#[32, 46, 46, 32, 45, 62, 32, 58, 61, 32, 38, 38, 32, 124, 124, 32, 61, 61, 32, 33, 61, 32, 60, 61, 32, 62, 61, 32]⟩ : ByteArray) (((⟨#[32]⟩ : ByteArray) ++ (a0.extract (a1 : Int).toNat ((wrap64 (a1 + 2)) : Int).toNat)) ++ (⟨#[32]⟩ : ByteArray))).bind fun t118 => (lexer_next.j0 k a1 (bt a0 a1) t118 0 a1 0 0)) else (none)) else (none)))) else (none)) else (lexer_next.j0 k a1 (bt a0 a1) false 0 a1 0 0)))))) else (none)) else (none)
theorem lexer_next.mono_l : ∀ k, (∀ y0 y1 y2 y3 y4 y5 y6, LeO (lexer_next.j0 k y0 y1 y2 y3 y4 y5 y6) (lexer_next.j0 (k + 1) y0 y1 y2 y3 y4 y5 y6))
  | 0 => fun _ _ _ _ _ _ _ r h => by simp [lexer_next.j0] at h
  | k + 1 => by
    have ih0 := lexer_next.mono_l k
    · intro y0 y1 y2 y3 y4 y5 y6
      unfold lexer_next.j0
      repeat' first
      | (with_reducible exact ih0 _ _ _ _ _ _ _)
      | (with_reducible exact lexer_while_at_lexer_digit.mono _ _ _)
      | (with_reducible exact lexer_while_at_lexer_inside.mono _ _ _)
      | (with_reducible exact LeO.refl _)
      | (with_reducible exact LeO.none _)
      | (with_reducible refine LeO.ite ?_ ?_)
      | (with_reducible refine LeO.bind ?_ (fun _ => ?_))
      | exact ih0 _ _ _ _ _ _ _
      | exact lexer_while_at_lexer_digit.mono _ _ _
      | exact lexer_while_at_lexer_inside.mono _ _ _
      | exact LeO.none _
      | refine LeO.ite ?_ ?_
      | refine LeO.bind ?_ (fun _ => ?_)
theorem lexer_next.mono : ∀ a0 a1 k, LeO (lexer_next.f k a0 a1) (lexer_next.f (k + 1) a0 a1) := by
  intro a0 a1 k
  have ih0 := lexer_next.mono_l k
  unfold lexer_next.f
  repeat' first
      | (with_reducible exact ih0 _ _ _ _ _ _ _)
      | (with_reducible exact lexer_while_at_lexer_digit.mono _ _ _)
      | (with_reducible exact lexer_while_at_lexer_inside.mono _ _ _)
      | (with_reducible exact LeO.refl _)
      | (with_reducible exact LeO.none _)
      | (with_reducible refine LeO.ite ?_ ?_)
      | (with_reducible refine LeO.bind ?_ (fun _ => ?_))
      | exact ih0 _ _ _ _ _ _ _
      | exact lexer_while_at_lexer_digit.mono _ _ _
      | exact lexer_while_at_lexer_inside.mono _ _ _
      | exact LeO.none _
      | refine LeO.ite ?_ ?_
      | refine LeO.bind ?_ (fun _ => ?_)
set_option maxHeartbeats 6000000 in
set_option maxRecDepth 100000 in
theorem lexer_next.calls (k : Nat) (a0 : ByteArray) (a1 : Int) (r1 : Int) (r2 : Int) (r3 : Int) (r4 : Int) (r5 : Int) (w : World) (hshp : Shp w) (h : lexer_next.f k a0 a1 = some (r1, r2, r3, r4, r5)) :
    Calls Try.prog 22 #[.string a0, .int .i64 a1] w fun e w' => e = .returned (.tuple #[.agg #[.int .i64 r1, .int .i64 r2, .int .i64 r3, .int .i64 r4], .int .i64 r5]) ∧ Below w.heap.size w w' := by
  have hu32 := Try.underlying32
  have HSHP := Aside0.mk hshp
  clear hshp
  have HB := Aside0.mk (Below.refl w.heap.size w)
  have H : (if 0 ≤ a1 then (if a1 < (a0.size : Int) then ((lexer_letter.f (bt a0 a1)).bind fun t111 => (if t111 = true then ((lexer_while_at_lexer_inside.f k a0 a1).bind fun t112 => (if (wrap64 (t112 - a1)) > 24 then (some (1, a1, t112, 0, 5)) else (some (1, a1, t112, 0, 0)))) else ((lexer_digit.f (bt a0 a1)).bind fun t113 => (if t113 = true then ((lexer_while_at_lexer_digit.f k a0 a1).bind fun t114 => (if a1 ≤ t114 then (if t114 ≤ (a0.size : Int) then ((lexer_number.f (a0.extract (a1 : Int).toNat (t114 : Int).toNat)).bind fun bt115 => (if bt115.2 = 0 then (some (2, a1, t114, bt115.1, 0)) else (some (2, a1, t114, bt115.1, bt115.2)))) else (none)) else (none))) else (if (wrap64 (a1 + 2)) ≤ (a0.size : Int) then (if a1 ≤ (wrap64 (a1 + 2)) then ((strings_ContainsRune.f (a0.extract (a1 : Int).toNat ((wrap64 (a1 + 2)) : Int).toNat) 32).bind fun t117 => (if t117 = true then (lexer_next.j0 k a1 (bt a0 a1) false 0 a1 0 0) else (if 1 + (a0.extract (a1 : Int).toNat ((wrap64 (a1 + 2)) : Int).toNat).size ≤ 9223372036854775807 then (if ((⟨#[32]⟩ : ByteArray) ++ (a0.extract (a1 : Int).toNat ((wrap64 (a1 + 2)) : Int).toNat)).size + 1 ≤ 9223372036854775807 then ((strings_Contains.f (⟨#[32, 46, 46, 32, 45, 62, 32, 58, 61, 32, 38, 38, 32, 124, 124, 32, 61, 61, 32, 33, 61, 32, 60, 61, 32, 62, 61, 32]⟩ : ByteArray) (((⟨#[32]⟩ : ByteArray) ++ (a0.extract (a1 : Int).toNat ((wrap64 (a1 + 2)) : Int).toNat)) ++ (⟨#[32]⟩ : ByteArray))).bind fun t118 => (lexer_next.j0 k a1 (bt a0 a1) t118 0 a1 0 0)) else (none)) else (none)))) else (none)) else (lexer_next.j0 k a1 (bt a0 a1) false 0 a1 0 0)))))) else (none)) else (none)) = some (r1, r2, r3, r4, r5) := h
  clear h
  by_cases c3 : 0 ≤ a1
  · rw [if_pos c3] at H
    have c3b0 : decide (0 ≤ a1) = true := decide_eq_true c3
    clear c3
    by_cases c4 : a1 < (a0.size : Int)
    · rw [if_pos c4] at H
      have c4b0 : decide (a1 < (a0.size : Int)) = true := decide_eq_true c4
      clear c4
      replace H := Option.bind_eq_some_iff.mp H
      obtain ⟨t111, A60, H⟩ := H
      replace H : (if t111 = true then ((lexer_while_at_lexer_inside.f k a0 a1).bind fun t112 => (if (wrap64 (t112 - a1)) > 24 then (some (1, a1, t112, 0, 5)) else (some (1, a1, t112, 0, 0)))) else ((lexer_digit.f (bt a0 a1)).bind fun t113 => (if t113 = true then ((lexer_while_at_lexer_digit.f k a0 a1).bind fun t114 => (if a1 ≤ t114 then (if t114 ≤ (a0.size : Int) then ((lexer_number.f (a0.extract (a1 : Int).toNat (t114 : Int).toNat)).bind fun bt115 => (if bt115.2 = 0 then (some (2, a1, t114, bt115.1, 0)) else (some (2, a1, t114, bt115.1, bt115.2)))) else (none)) else (none))) else (if (wrap64 (a1 + 2)) ≤ (a0.size : Int) then (if a1 ≤ (wrap64 (a1 + 2)) then ((strings_ContainsRune.f (a0.extract (a1 : Int).toNat ((wrap64 (a1 + 2)) : Int).toNat) 32).bind fun t117 => (if t117 = true then (lexer_next.j0 k a1 (bt a0 a1) false 0 a1 0 0) else (if 1 + (a0.extract (a1 : Int).toNat ((wrap64 (a1 + 2)) : Int).toNat).size ≤ 9223372036854775807 then (if ((⟨#[32]⟩ : ByteArray) ++ (a0.extract (a1 : Int).toNat ((wrap64 (a1 + 2)) : Int).toNat)).size + 1 ≤ 9223372036854775807 then ((strings_Contains.f (⟨#[32, 46, 46, 32, 45, 62, 32, 58, 61, 32, 38, 38, 32, 124, 124, 32, 61, 61, 32, 33, 61, 32, 60, 61, 32, 62, 61, 32]⟩ : ByteArray) (((⟨#[32]⟩ : ByteArray) ++ (a0.extract (a1 : Int).toNat ((wrap64 (a1 + 2)) : Int).toNat)) ++ (⟨#[32]⟩ : ByteArray))).bind fun t118 => (lexer_next.j0 k a1 (bt a0 a1) t118 0 a1 0 0)) else (none)) else (none)))) else (none)) else (lexer_next.j0 k a1 (bt a0 a1) false 0 a1 0 0))))) = some (r1, r2, r3, r4, r5) := H
      have A6 := Aside0.mk A60
      clear A60
      by_cases c7 : t111 = true
      · subst c7
        have H1 : ((lexer_while_at_lexer_inside.f k a0 a1).bind fun t112 => (if (wrap64 (t112 - a1)) > 24 then (some (1, a1, t112, 0, 5)) else (some (1, a1, t112, 0, 0)))) = some (r1, r2, r3, r4, r5) := by rw [if_pos rfl] at H; exact H
        clear H
        have H := H1
        clear H1
        replace H := Option.bind_eq_some_iff.mp H
        obtain ⟨t112, A80, H⟩ := H
        replace H : (if (wrap64 (t112 - a1)) > 24 then (some (1, a1, t112, 0, 5)) else (some (1, a1, t112, 0, 0))) = some (r1, r2, r3, r4, r5) := H
        have A8 := Aside0.mk A80
        clear A80
        by_cases c9 : (wrap64 (t112 - a1)) > 24
        · rw [if_pos c9] at H
          have c9b0 : decide (24 < (wrap64 (t112 - a1))) = true := decide_eq_true c9
          clear c9
          simp only [Option.some.injEq, Prod.mk.injEq] at H
          obtain ⟨rfl, rfl, rfl, rfl, rfl⟩ := H
          go_enter Try.func22, Try.ntmps22
          go_wp2_with (first | ((with_reducible refine gate_dst (N := 4) rfl ?_); refine box_event ?hg (N := 4) ?hd (cs := #[.int .i64 0, .int .i64 0, .int .i64 0, .int .i64 0]) (t := 32) ?hr ?_; (case hd => rfl); (case hg => rfl); (case hr => first | (go_simp; done) | (go_simp; rfl)); intro gb109 hg w10 hbox hb; have n0_ := Aside0.mk (below_step (by repeat (first | (with_reducible first | exact HB.out | apply below_alloc | apply pw_below_drewN | apply below_drew1) | exact HB.out)) hb); have n1_ := Aside0.mk (hbox); have n2_ := Aside0.mk ((by rw [hg]; exact (below_size (by repeat (first | (with_reducible first | exact HB.out | apply below_alloc | apply pw_below_drewN | apply below_drew1) | exact HB.out))) : w.heap.size ≤ gb109)); have n3_ := Aside0.mk ((by rw [hg]; exact (below_size (by repeat (first | (with_reducible first | exact HB.out | apply below_alloc | apply pw_below_drewN | apply below_drew1) | exact HB.out))) : w.heap.size ≤ gb109)); clear HB; have HB := n0_; have BK109 := n1_; have GW109 := n2_; have GE109 := n3_; clear n0_ n1_ n2_ n3_; clear hb hbox hg) | ((with_reducible refine gate_dst (N := 6) rfl ?_); refine box_event ?hg (N := 6) ?hd (cs := #[.int .i64 0, .int .i64 0, .int .i64 0, .int .i64 0]) (t := 32) ?hr ?_; (case hd => rfl); (case hg => rfl); (case hr => first | (go_simp; done) | (go_simp; rfl)); intro gb110 hg w11 hbox hb; have n0_ := Aside0.mk (blk_below (g := gb109) (o := .cells #[.int .i64 0, .int .i64 0, .int .i64 0, .int .i64 0] 32 (0, 0)) (by (with_reducible repeat (first | refine blk_drewN ?_ _ | refine blk_drew ?_ | refine blk_alloc ?_ _)); exact BK109.out) hb); have n1_ := Aside0.mk (below_step (by repeat (first | (with_reducible first | exact HB.out | apply below_alloc | apply pw_below_drewN | apply below_drew1 | refine below_set ?_ GE109.out) | exact HB.out)) hb); have n2_ := Aside0.mk (hbox); have n3_ := Aside0.mk ((by rw [hg]; exact (below_size (by repeat (first | (with_reducible first | exact HB.out | apply below_alloc | apply pw_below_drewN | apply below_drew1 | refine below_set ?_ GE109.out) | exact HB.out))) : w.heap.size ≤ gb110)); have n4_ := Aside0.mk ((by rw [hg]; exact (below_size (by repeat (first | (with_reducible first | exact HB.out | apply below_alloc | apply pw_below_drewN | apply below_drew1 | refine below_set ?_ GE109.out) | exact HB.out))) : w.heap.size ≤ gb110)); have n5_ := Aside0.mk ((by rw [hg]; exact Nat.ne_of_lt (blk_lt (g := gb109) (o := .cells #[.int .i64 0, .int .i64 0, .int .i64 0, .int .i64 0] 32 (0, 0)) (by (with_reducible repeat (first | refine blk_drewN ?_ _ | refine blk_drew ?_ | refine blk_alloc ?_ _)); exact BK109.out)) : gb109 ≠ gb110)); have n6_ := Aside0.mk ((by rw [hg]; exact Nat.ne_of_gt (blk_lt (g := gb109) (o := .cells #[.int .i64 0, .int .i64 0, .int .i64 0, .int .i64 0] 32 (0, 0)) (by (with_reducible repeat (first | refine blk_drewN ?_ _ | refine blk_drew ?_ | refine blk_alloc ?_ _)); exact BK109.out)) : gb110 ≠ gb109)); clear BK109; clear HB; have BK109 := n0_; have HB := n1_; have BK110 := n2_; have GW110 := n3_; have GE110 := n4_; have NB109_110 := n5_; have NB110_109 := n6_; clear n0_ n1_ n2_ n3_ n4_ n5_ n6_; clear hb hbox hg; have hnb12 := NB110_109.out; have hnc12 := NB109_110.out; have hcz13_0 : w11.cell? ⟨gb110, 0, none⟩ = some (.int .i64 0) := (blk_cell BK110.out 0).trans rfl; have hcz13_1 : w11.cell? ⟨gb110, 1, none⟩ = some (.int .i64 0) := (blk_cell BK110.out 1).trans rfl; have hcz13_2 : w11.cell? ⟨gb110, 2, none⟩ = some (.int .i64 0) := (blk_cell BK110.out 2).trans rfl; have hcz13_3 : w11.cell? ⟨gb110, 3, none⟩ = some (.int .i64 0) := (blk_cell BK110.out 3).trans rfl; have hfz13_0 := blk_frozen BK110.out 0; have hfz13_1 := blk_frozen BK110.out 1; have hfz13_2 := blk_frozen BK110.out 2; have hfz13_3 := blk_frozen BK110.out 3; have p5 : 0 ≤ (a1 : Int) := of_decide_eq_true (by first | (with_reducible assumption) | assumption); have q5 : a1 < (a0.size : Int) := of_decide_eq_true (by first | (with_reducible assumption) | assumption); have hx5 := bt_at a0 a1; replace p5 := eq_true p5; replace q5 := eq_true q5) | ((with_reducible refine gate_callee (f := 26) rfl ?_); refine goesL_ (some 17) rfl rfl Try.func26 (by kernel_rfl) rfl #[.int .u8 (bt a0 a1)] rfl (by (try simp only [List.map_toArray, List.map_cons, List.map_nil]); first | done | rfl | (simp only [List.length_drop, List.length_take]; rfl)) ?_; (with_reducible refine (lexer_letter.calls (bt a0 a1) true _ A6.out).mono ?_); rintro e w' ⟨rfl, ⟨nd, rfl⟩⟩; refine ⟨_, rfl, ?_⟩) | ((with_reducible refine gate_callee (f := 25) rfl ?_); refine goesL_ (some 20) rfl rfl Try.func25 (by kernel_rfl) rfl #[.string a0, .int .i64 a1, .func (.func 28) #[] #[]] rfl (by (try simp only [List.map_toArray, List.map_cons, List.map_nil]); first | done | rfl | (simp only [List.length_drop, List.length_take]; rfl)) ?_; (with_reducible refine (lexer_while_at_lexer_inside.calls k a0 a1  t112 _ A8.out).mono ?_); rintro e w14 ⟨rfl, hb⟩; refine ⟨_, rfl, ?_⟩; have n0_ := Aside0.mk (blk_below (g := gb109) (o := .cells #[.int .i64 0, .int .i64 0, .int .i64 0, .int .i64 0] 32 (0, 0)) (by (with_reducible repeat (first | refine blk_drewN ?_ _ | refine blk_drew ?_ | refine blk_alloc ?_ _)); refine blk_far ?_ NB109_110.out _; (with_reducible repeat (first | refine blk_drewN ?_ _ | refine blk_drew ?_ | refine blk_alloc ?_ _)); refine blk_far ?_ NB109_110.out _; (with_reducible repeat (first | refine blk_drewN ?_ _ | refine blk_drew ?_ | refine blk_alloc ?_ _)); refine blk_far ?_ NB109_110.out _; (with_reducible repeat (first | refine blk_drewN ?_ _ | refine blk_drew ?_ | refine blk_alloc ?_ _)); refine blk_far ?_ NB109_110.out _; (with_reducible repeat (first | refine blk_drewN ?_ _ | refine blk_drew ?_ | refine blk_alloc ?_ _)); exact BK109.out) hb); have n1_ := Aside0.mk (blk_below (g := gb110) (o := .cells #[.int .i64 0, .int .i64 a1, .int .i64 0, .int .i64 0] 32 (0, 0)) (by (with_reducible repeat (first | refine blk_drewN ?_ _ | refine blk_drew ?_ | refine blk_alloc ?_ _)); refine blk_put (cs := #[.int .i64 0, .int .i64 a1, .int .i64 0, .int .i64 0]) ?_ 3 _ rfl; (with_reducible repeat (first | refine blk_drewN ?_ _ | refine blk_drew ?_ | refine blk_alloc ?_ _)); refine blk_put (cs := #[.int .i64 0, .int .i64 a1, .int .i64 0, .int .i64 0]) ?_ 2 _ rfl; (with_reducible repeat (first | refine blk_drewN ?_ _ | refine blk_drew ?_ | refine blk_alloc ?_ _)); refine blk_put (cs := #[.int .i64 0, .int .i64 0, .int .i64 0, .int .i64 0]) ?_ 1 _ rfl; (with_reducible repeat (first | refine blk_drewN ?_ _ | refine blk_drew ?_ | refine blk_alloc ?_ _)); refine blk_put (cs := #[.int .i64 0, .int .i64 0, .int .i64 0, .int .i64 0]) ?_ 0 _ rfl; (with_reducible repeat (first | refine blk_drewN ?_ _ | refine blk_drew ?_ | refine blk_alloc ?_ _)); exact BK110.out) hb); have n2_ := Aside0.mk (below_step (by repeat (first | (with_reducible first | exact HB.out | apply below_alloc | apply pw_below_drewN | apply below_drew1 | refine below_set ?_ GE109.out | refine below_set ?_ GE110.out) | exact HB.out)) hb); clear BK109; clear BK110; clear HB; have BK109 := n0_; have BK110 := n1_; have HB := n2_; clear n0_ n1_ n2_; (try clear hb); (try clear hb2); (try clear hk); (try clear hi); have hcz15_0 : w14.cell? ⟨gb110, 0, none⟩ = some (.int .i64 0) := (blk_cell BK110.out 0).trans rfl; have hcz15_1 : w14.cell? ⟨gb110, 1, none⟩ = some (.int .i64 a1) := (blk_cell BK110.out 1).trans rfl; have hcz15_2 : w14.cell? ⟨gb110, 2, none⟩ = some (.int .i64 0) := (blk_cell BK110.out 2).trans rfl; have hcz15_3 : w14.cell? ⟨gb110, 3, none⟩ = some (.int .i64 0) := (blk_cell BK110.out 3).trans rfl; have hfz15_0 := blk_frozen BK110.out 0; have hfz15_1 := blk_frozen BK110.out 1; have hfz15_2 := blk_frozen BK110.out 2; have hfz15_3 := blk_frozen BK110.out 3; have hcz16_0 : w14.cell? ⟨gb109, 0, none⟩ = some (.int .i64 0) := (blk_cell BK109.out 0).trans rfl; have hcz16_1 : w14.cell? ⟨gb109, 1, none⟩ = some (.int .i64 0) := (blk_cell BK109.out 1).trans rfl; have hcz16_2 : w14.cell? ⟨gb109, 2, none⟩ = some (.int .i64 0) := (blk_cell BK109.out 2).trans rfl; have hcz16_3 : w14.cell? ⟨gb109, 3, none⟩ = some (.int .i64 0) := (blk_cell BK109.out 3).trans rfl; have hfz16_0 := blk_frozen BK109.out 0; have hfz16_1 := blk_frozen BK109.out 1; have hfz16_2 := blk_frozen BK109.out 2; have hfz16_3 := blk_frozen BK109.out 3))
          refine bodyPost_ret (results_ct rfl _ _ gb109 32 #[.int .i64 1, .int .i64 a1, .int .i64 t112, .int .i64 0] (0, 0) _ rfl (by (with_reducible repeat (first | refine blk_drewN ?_ _ | refine blk_drew ?_ | refine blk_alloc ?_ _)); refine blk_put (cs := #[.int .i64 1, .int .i64 a1, .int .i64 t112, .int .i64 0]) ?_ 3 _ rfl; (with_reducible repeat (first | refine blk_drewN ?_ _ | refine blk_drew ?_ | refine blk_alloc ?_ _)); refine blk_put (cs := #[.int .i64 1, .int .i64 a1, .int .i64 0, .int .i64 0]) ?_ 2 _ rfl; (with_reducible repeat (first | refine blk_drewN ?_ _ | refine blk_drew ?_ | refine blk_alloc ?_ _)); refine blk_put (cs := #[.int .i64 1, .int .i64 0, .int .i64 0, .int .i64 0]) ?_ 1 _ rfl; (with_reducible repeat (first | refine blk_drewN ?_ _ | refine blk_drew ?_ | refine blk_alloc ?_ _)); refine blk_put (cs := #[.int .i64 0, .int .i64 0, .int .i64 0, .int .i64 0]) ?_ 0 _ rfl; (with_reducible repeat (first | refine blk_drewN ?_ _ | refine blk_drew ?_ | refine blk_alloc ?_ _)); refine blk_far ?_ NB109_110.out _; (with_reducible repeat (first | refine blk_drewN ?_ _ | refine blk_drew ?_ | refine blk_alloc ?_ _)); refine blk_far ?_ NB109_110.out _; (with_reducible repeat (first | refine blk_drewN ?_ _ | refine blk_drew ?_ | refine blk_alloc ?_ _)); exact BK109.out) Try.underlying32 rfl (by kernel_rfl)) rfl ?_
          exact ⟨by first | rfl | (simp [errW_none, errW_some] <;> rfl) | (simp [*, errW_none, errW_some] <;> rfl), by repeat (first | (with_reducible first | exact HB.out | apply below_alloc | apply pw_below_drewN | apply below_drew1 | refine below_set ?_ GE109.out | refine below_set ?_ GE110.out) | exact HB.out)⟩
        · rw [if_neg c9] at H
          have c9b0 : decide (24 < (wrap64 (t112 - a1))) = false := decide_eq_false c9
          clear c9
          simp only [Option.some.injEq, Prod.mk.injEq] at H
          obtain ⟨rfl, rfl, rfl, rfl, rfl⟩ := H
          go_enter Try.func22, Try.ntmps22
          go_wp2_with (first | ((with_reducible refine gate_dst (N := 4) rfl ?_); refine box_event ?hg (N := 4) ?hd (cs := #[.int .i64 0, .int .i64 0, .int .i64 0, .int .i64 0]) (t := 32) ?hr ?_; (case hd => rfl); (case hg => rfl); (case hr => first | (go_simp; done) | (go_simp; rfl)); intro gb109 hg w17 hbox hb; have n0_ := Aside0.mk (below_step (by repeat (first | (with_reducible first | exact HB.out | apply below_alloc | apply pw_below_drewN | apply below_drew1) | exact HB.out)) hb); have n1_ := Aside0.mk (hbox); have n2_ := Aside0.mk ((by rw [hg]; exact (below_size (by repeat (first | (with_reducible first | exact HB.out | apply below_alloc | apply pw_below_drewN | apply below_drew1) | exact HB.out))) : w.heap.size ≤ gb109)); have n3_ := Aside0.mk ((by rw [hg]; exact (below_size (by repeat (first | (with_reducible first | exact HB.out | apply below_alloc | apply pw_below_drewN | apply below_drew1) | exact HB.out))) : w.heap.size ≤ gb109)); clear HB; have HB := n0_; have BK109 := n1_; have GW109 := n2_; have GE109 := n3_; clear n0_ n1_ n2_ n3_; clear hb hbox hg) | ((with_reducible refine gate_dst (N := 6) rfl ?_); refine box_event ?hg (N := 6) ?hd (cs := #[.int .i64 0, .int .i64 0, .int .i64 0, .int .i64 0]) (t := 32) ?hr ?_; (case hd => rfl); (case hg => rfl); (case hr => first | (go_simp; done) | (go_simp; rfl)); intro gb110 hg w18 hbox hb; have n0_ := Aside0.mk (blk_below (g := gb109) (o := .cells #[.int .i64 0, .int .i64 0, .int .i64 0, .int .i64 0] 32 (0, 0)) (by (with_reducible repeat (first | refine blk_drewN ?_ _ | refine blk_drew ?_ | refine blk_alloc ?_ _)); exact BK109.out) hb); have n1_ := Aside0.mk (below_step (by repeat (first | (with_reducible first | exact HB.out | apply below_alloc | apply pw_below_drewN | apply below_drew1 | refine below_set ?_ GE109.out) | exact HB.out)) hb); have n2_ := Aside0.mk (hbox); have n3_ := Aside0.mk ((by rw [hg]; exact (below_size (by repeat (first | (with_reducible first | exact HB.out | apply below_alloc | apply pw_below_drewN | apply below_drew1 | refine below_set ?_ GE109.out) | exact HB.out))) : w.heap.size ≤ gb110)); have n4_ := Aside0.mk ((by rw [hg]; exact (below_size (by repeat (first | (with_reducible first | exact HB.out | apply below_alloc | apply pw_below_drewN | apply below_drew1 | refine below_set ?_ GE109.out) | exact HB.out))) : w.heap.size ≤ gb110)); have n5_ := Aside0.mk ((by rw [hg]; exact Nat.ne_of_lt (blk_lt (g := gb109) (o := .cells #[.int .i64 0, .int .i64 0, .int .i64 0, .int .i64 0] 32 (0, 0)) (by (with_reducible repeat (first | refine blk_drewN ?_ _ | refine blk_drew ?_ | refine blk_alloc ?_ _)); exact BK109.out)) : gb109 ≠ gb110)); have n6_ := Aside0.mk ((by rw [hg]; exact Nat.ne_of_gt (blk_lt (g := gb109) (o := .cells #[.int .i64 0, .int .i64 0, .int .i64 0, .int .i64 0] 32 (0, 0)) (by (with_reducible repeat (first | refine blk_drewN ?_ _ | refine blk_drew ?_ | refine blk_alloc ?_ _)); exact BK109.out)) : gb110 ≠ gb109)); clear BK109; clear HB; have BK109 := n0_; have HB := n1_; have BK110 := n2_; have GW110 := n3_; have GE110 := n4_; have NB109_110 := n5_; have NB110_109 := n6_; clear n0_ n1_ n2_ n3_ n4_ n5_ n6_; clear hb hbox hg; have hnb19 := NB110_109.out; have hnc19 := NB109_110.out; have hcz20_0 : w18.cell? ⟨gb110, 0, none⟩ = some (.int .i64 0) := (blk_cell BK110.out 0).trans rfl; have hcz20_1 : w18.cell? ⟨gb110, 1, none⟩ = some (.int .i64 0) := (blk_cell BK110.out 1).trans rfl; have hcz20_2 : w18.cell? ⟨gb110, 2, none⟩ = some (.int .i64 0) := (blk_cell BK110.out 2).trans rfl; have hcz20_3 : w18.cell? ⟨gb110, 3, none⟩ = some (.int .i64 0) := (blk_cell BK110.out 3).trans rfl; have hfz20_0 := blk_frozen BK110.out 0; have hfz20_1 := blk_frozen BK110.out 1; have hfz20_2 := blk_frozen BK110.out 2; have hfz20_3 := blk_frozen BK110.out 3; have p5 : 0 ≤ (a1 : Int) := of_decide_eq_true (by first | (with_reducible assumption) | assumption); have q5 : a1 < (a0.size : Int) := of_decide_eq_true (by first | (with_reducible assumption) | assumption); have hx5 := bt_at a0 a1; replace p5 := eq_true p5; replace q5 := eq_true q5) | ((with_reducible refine gate_callee (f := 26) rfl ?_); refine goesL_ (some 17) rfl rfl Try.func26 (by kernel_rfl) rfl #[.int .u8 (bt a0 a1)] rfl (by (try simp only [List.map_toArray, List.map_cons, List.map_nil]); first | done | rfl | (simp only [List.length_drop, List.length_take]; rfl)) ?_; (with_reducible refine (lexer_letter.calls (bt a0 a1) true _ A6.out).mono ?_); rintro e w' ⟨rfl, ⟨nd, rfl⟩⟩; refine ⟨_, rfl, ?_⟩) | ((with_reducible refine gate_callee (f := 25) rfl ?_); refine goesL_ (some 20) rfl rfl Try.func25 (by kernel_rfl) rfl #[.string a0, .int .i64 a1, .func (.func 28) #[] #[]] rfl (by (try simp only [List.map_toArray, List.map_cons, List.map_nil]); first | done | rfl | (simp only [List.length_drop, List.length_take]; rfl)) ?_; (with_reducible refine (lexer_while_at_lexer_inside.calls k a0 a1  t112 _ A8.out).mono ?_); rintro e w21 ⟨rfl, hb⟩; refine ⟨_, rfl, ?_⟩; have n0_ := Aside0.mk (blk_below (g := gb109) (o := .cells #[.int .i64 0, .int .i64 0, .int .i64 0, .int .i64 0] 32 (0, 0)) (by (with_reducible repeat (first | refine blk_drewN ?_ _ | refine blk_drew ?_ | refine blk_alloc ?_ _)); refine blk_far ?_ NB109_110.out _; (with_reducible repeat (first | refine blk_drewN ?_ _ | refine blk_drew ?_ | refine blk_alloc ?_ _)); refine blk_far ?_ NB109_110.out _; (with_reducible repeat (first | refine blk_drewN ?_ _ | refine blk_drew ?_ | refine blk_alloc ?_ _)); refine blk_far ?_ NB109_110.out _; (with_reducible repeat (first | refine blk_drewN ?_ _ | refine blk_drew ?_ | refine blk_alloc ?_ _)); refine blk_far ?_ NB109_110.out _; (with_reducible repeat (first | refine blk_drewN ?_ _ | refine blk_drew ?_ | refine blk_alloc ?_ _)); exact BK109.out) hb); have n1_ := Aside0.mk (blk_below (g := gb110) (o := .cells #[.int .i64 0, .int .i64 a1, .int .i64 0, .int .i64 0] 32 (0, 0)) (by (with_reducible repeat (first | refine blk_drewN ?_ _ | refine blk_drew ?_ | refine blk_alloc ?_ _)); refine blk_put (cs := #[.int .i64 0, .int .i64 a1, .int .i64 0, .int .i64 0]) ?_ 3 _ rfl; (with_reducible repeat (first | refine blk_drewN ?_ _ | refine blk_drew ?_ | refine blk_alloc ?_ _)); refine blk_put (cs := #[.int .i64 0, .int .i64 a1, .int .i64 0, .int .i64 0]) ?_ 2 _ rfl; (with_reducible repeat (first | refine blk_drewN ?_ _ | refine blk_drew ?_ | refine blk_alloc ?_ _)); refine blk_put (cs := #[.int .i64 0, .int .i64 0, .int .i64 0, .int .i64 0]) ?_ 1 _ rfl; (with_reducible repeat (first | refine blk_drewN ?_ _ | refine blk_drew ?_ | refine blk_alloc ?_ _)); refine blk_put (cs := #[.int .i64 0, .int .i64 0, .int .i64 0, .int .i64 0]) ?_ 0 _ rfl; (with_reducible repeat (first | refine blk_drewN ?_ _ | refine blk_drew ?_ | refine blk_alloc ?_ _)); exact BK110.out) hb); have n2_ := Aside0.mk (below_step (by repeat (first | (with_reducible first | exact HB.out | apply below_alloc | apply pw_below_drewN | apply below_drew1 | refine below_set ?_ GE109.out | refine below_set ?_ GE110.out) | exact HB.out)) hb); clear BK109; clear BK110; clear HB; have BK109 := n0_; have BK110 := n1_; have HB := n2_; clear n0_ n1_ n2_; (try clear hb); (try clear hb2); (try clear hk); (try clear hi); have hcz22_0 : w21.cell? ⟨gb110, 0, none⟩ = some (.int .i64 0) := (blk_cell BK110.out 0).trans rfl; have hcz22_1 : w21.cell? ⟨gb110, 1, none⟩ = some (.int .i64 a1) := (blk_cell BK110.out 1).trans rfl; have hcz22_2 : w21.cell? ⟨gb110, 2, none⟩ = some (.int .i64 0) := (blk_cell BK110.out 2).trans rfl; have hcz22_3 : w21.cell? ⟨gb110, 3, none⟩ = some (.int .i64 0) := (blk_cell BK110.out 3).trans rfl; have hfz22_0 := blk_frozen BK110.out 0; have hfz22_1 := blk_frozen BK110.out 1; have hfz22_2 := blk_frozen BK110.out 2; have hfz22_3 := blk_frozen BK110.out 3; have hcz23_0 : w21.cell? ⟨gb109, 0, none⟩ = some (.int .i64 0) := (blk_cell BK109.out 0).trans rfl; have hcz23_1 : w21.cell? ⟨gb109, 1, none⟩ = some (.int .i64 0) := (blk_cell BK109.out 1).trans rfl; have hcz23_2 : w21.cell? ⟨gb109, 2, none⟩ = some (.int .i64 0) := (blk_cell BK109.out 2).trans rfl; have hcz23_3 : w21.cell? ⟨gb109, 3, none⟩ = some (.int .i64 0) := (blk_cell BK109.out 3).trans rfl; have hfz23_0 := blk_frozen BK109.out 0; have hfz23_1 := blk_frozen BK109.out 1; have hfz23_2 := blk_frozen BK109.out 2; have hfz23_3 := blk_frozen BK109.out 3))
          refine bodyPost_ret (results_ct rfl _ _ gb109 32 #[.int .i64 1, .int .i64 a1, .int .i64 t112, .int .i64 0] (0, 0) _ rfl (by (with_reducible repeat (first | refine blk_drewN ?_ _ | refine blk_drew ?_ | refine blk_alloc ?_ _)); refine blk_put (cs := #[.int .i64 1, .int .i64 a1, .int .i64 t112, .int .i64 0]) ?_ 3 _ rfl; (with_reducible repeat (first | refine blk_drewN ?_ _ | refine blk_drew ?_ | refine blk_alloc ?_ _)); refine blk_put (cs := #[.int .i64 1, .int .i64 a1, .int .i64 0, .int .i64 0]) ?_ 2 _ rfl; (with_reducible repeat (first | refine blk_drewN ?_ _ | refine blk_drew ?_ | refine blk_alloc ?_ _)); refine blk_put (cs := #[.int .i64 1, .int .i64 0, .int .i64 0, .int .i64 0]) ?_ 1 _ rfl; (with_reducible repeat (first | refine blk_drewN ?_ _ | refine blk_drew ?_ | refine blk_alloc ?_ _)); refine blk_put (cs := #[.int .i64 0, .int .i64 0, .int .i64 0, .int .i64 0]) ?_ 0 _ rfl; (with_reducible repeat (first | refine blk_drewN ?_ _ | refine blk_drew ?_ | refine blk_alloc ?_ _)); refine blk_far ?_ NB109_110.out _; (with_reducible repeat (first | refine blk_drewN ?_ _ | refine blk_drew ?_ | refine blk_alloc ?_ _)); refine blk_far ?_ NB109_110.out _; (with_reducible repeat (first | refine blk_drewN ?_ _ | refine blk_drew ?_ | refine blk_alloc ?_ _)); exact BK109.out) Try.underlying32 rfl (by kernel_rfl)) rfl ?_
          exact ⟨by first | rfl | (simp [errW_none, errW_some] <;> rfl) | (simp [*, errW_none, errW_some] <;> rfl), by repeat (first | (with_reducible first | exact HB.out | apply below_alloc | apply pw_below_drewN | apply below_drew1 | refine below_set ?_ GE109.out | refine below_set ?_ GE110.out) | exact HB.out)⟩
      · replace c7 := Bool.eq_false_iff.mpr c7
        subst c7
        have H1 : ((lexer_digit.f (bt a0 a1)).bind fun t113 => (if t113 = true then ((lexer_while_at_lexer_digit.f k a0 a1).bind fun t114 => (if a1 ≤ t114 then (if t114 ≤ (a0.size : Int) then ((lexer_number.f (a0.extract (a1 : Int).toNat (t114 : Int).toNat)).bind fun bt115 => (if bt115.2 = 0 then (some (2, a1, t114, bt115.1, 0)) else (some (2, a1, t114, bt115.1, bt115.2)))) else (none)) else (none))) else (if (wrap64 (a1 + 2)) ≤ (a0.size : Int) then (if a1 ≤ (wrap64 (a1 + 2)) then ((strings_ContainsRune.f (a0.extract (a1 : Int).toNat ((wrap64 (a1 + 2)) : Int).toNat) 32).bind fun t117 => (if t117 = true then (lexer_next.j0 k a1 (bt a0 a1) false 0 a1 0 0) else (if 1 + (a0.extract (a1 : Int).toNat ((wrap64 (a1 + 2)) : Int).toNat).size ≤ 9223372036854775807 then (if ((⟨#[32]⟩ : ByteArray) ++ (a0.extract (a1 : Int).toNat ((wrap64 (a1 + 2)) : Int).toNat)).size + 1 ≤ 9223372036854775807 then ((strings_Contains.f (⟨#[32, 46, 46, 32, 45, 62, 32, 58, 61, 32, 38, 38, 32, 124, 124, 32, 61, 61, 32, 33, 61, 32, 60, 61, 32, 62, 61, 32]⟩ : ByteArray) (((⟨#[32]⟩ : ByteArray) ++ (a0.extract (a1 : Int).toNat ((wrap64 (a1 + 2)) : Int).toNat)) ++ (⟨#[32]⟩ : ByteArray))).bind fun t118 => (lexer_next.j0 k a1 (bt a0 a1) t118 0 a1 0 0)) else (none)) else (none)))) else (none)) else (lexer_next.j0 k a1 (bt a0 a1) false 0 a1 0 0)))) = some (r1, r2, r3, r4, r5) := by rw [if_neg (show ¬ (false = true) by decide)] at H; exact H
        clear H
        have H := H1
        clear H1
        replace H := Option.bind_eq_some_iff.mp H
        obtain ⟨t113, A240, H⟩ := H
        replace H : (if t113 = true then ((lexer_while_at_lexer_digit.f k a0 a1).bind fun t114 => (if a1 ≤ t114 then (if t114 ≤ (a0.size : Int) then ((lexer_number.f (a0.extract (a1 : Int).toNat (t114 : Int).toNat)).bind fun bt115 => (if bt115.2 = 0 then (some (2, a1, t114, bt115.1, 0)) else (some (2, a1, t114, bt115.1, bt115.2)))) else (none)) else (none))) else (if (wrap64 (a1 + 2)) ≤ (a0.size : Int) then (if a1 ≤ (wrap64 (a1 + 2)) then ((strings_ContainsRune.f (a0.extract (a1 : Int).toNat ((wrap64 (a1 + 2)) : Int).toNat) 32).bind fun t117 => (if t117 = true then (lexer_next.j0 k a1 (bt a0 a1) false 0 a1 0 0) else (if 1 + (a0.extract (a1 : Int).toNat ((wrap64 (a1 + 2)) : Int).toNat).size ≤ 9223372036854775807 then (if ((⟨#[32]⟩ : ByteArray) ++ (a0.extract (a1 : Int).toNat ((wrap64 (a1 + 2)) : Int).toNat)).size + 1 ≤ 9223372036854775807 then ((strings_Contains.f (⟨#[32, 46, 46, 32, 45, 62, 32, 58, 61, 32, 38, 38, 32, 124, 124, 32, 61, 61, 32, 33, 61, 32, 60, 61, 32, 62, 61, 32]⟩ : ByteArray) (((⟨#[32]⟩ : ByteArray) ++ (a0.extract (a1 : Int).toNat ((wrap64 (a1 + 2)) : Int).toNat)) ++ (⟨#[32]⟩ : ByteArray))).bind fun t118 => (lexer_next.j0 k a1 (bt a0 a1) t118 0 a1 0 0)) else (none)) else (none)))) else (none)) else (lexer_next.j0 k a1 (bt a0 a1) false 0 a1 0 0))) = some (r1, r2, r3, r4, r5) := H
        have A24 := Aside0.mk A240
        clear A240
        by_cases c25 : t113 = true
        · subst c25
          have H1 : ((lexer_while_at_lexer_digit.f k a0 a1).bind fun t114 => (if a1 ≤ t114 then (if t114 ≤ (a0.size : Int) then ((lexer_number.f (a0.extract (a1 : Int).toNat (t114 : Int).toNat)).bind fun bt115 => (if bt115.2 = 0 then (some (2, a1, t114, bt115.1, 0)) else (some (2, a1, t114, bt115.1, bt115.2)))) else (none)) else (none))) = some (r1, r2, r3, r4, r5) := by rw [if_pos rfl] at H; exact H
          clear H
          have H := H1
          clear H1
          replace H := Option.bind_eq_some_iff.mp H
          obtain ⟨t114, A260, H⟩ := H
          replace H : (if a1 ≤ t114 then (if t114 ≤ (a0.size : Int) then ((lexer_number.f (a0.extract (a1 : Int).toNat (t114 : Int).toNat)).bind fun bt115 => (if bt115.2 = 0 then (some (2, a1, t114, bt115.1, 0)) else (some (2, a1, t114, bt115.1, bt115.2)))) else (none)) else (none)) = some (r1, r2, r3, r4, r5) := H
          have A26 := Aside0.mk A260
          clear A260
          have c27b0 := eq_true (of_decide_eq_true (by first | (with_reducible assumption) | assumption) : 0 ≤ a1)
          by_cases c28 : a1 ≤ t114
          · rw [if_pos c28] at H
            have c28b0 := eq_true c28
            have c28b1 : decide (a1 ≤ t114) = true := decide_eq_true c28
            clear c28
            by_cases c29 : t114 ≤ (a0.size : Int)
            · rw [if_pos c29] at H
              have c29b0 := eq_true c29
              have c29b1 : decide (t114 ≤ (a0.size : Int)) = true := decide_eq_true c29
              clear c29
              replace H := Option.bind_eq_some_iff.mp H
              obtain ⟨⟨t115, t116⟩, A300, H⟩ := H
              replace H : (if t116 = 0 then (some (2, a1, t114, t115, 0)) else (some (2, a1, t114, t115, t116))) = some (r1, r2, r3, r4, r5) := H
              have A30 := Aside0.mk A300
              clear A300
              by_cases c31 : t116 = 0
              · rw [if_pos c31] at H
                have c31b0 : (t116 == 0) = true := beq_iff_eq.mpr c31
                have c31b1 : (t116 != 0) = false := bne_eq_false_iff_eq.mpr c31
                clear c31
                simp only [Option.some.injEq, Prod.mk.injEq] at H
                obtain ⟨rfl, rfl, rfl, rfl, rfl⟩ := H
                go_enter Try.func22, Try.ntmps22
                go_wp2_with (first | ((with_reducible refine gate_dst (N := 4) rfl ?_); refine box_event ?hg (N := 4) ?hd (cs := #[.int .i64 0, .int .i64 0, .int .i64 0, .int .i64 0]) (t := 32) ?hr ?_; (case hd => rfl); (case hg => rfl); (case hr => first | (go_simp; done) | (go_simp; rfl)); intro gb109 hg w32 hbox hb; have n0_ := Aside0.mk (below_step (by repeat (first | (with_reducible first | exact HB.out | apply below_alloc | apply pw_below_drewN | apply below_drew1) | exact HB.out)) hb); have n1_ := Aside0.mk (hbox); have n2_ := Aside0.mk ((by rw [hg]; exact (below_size (by repeat (first | (with_reducible first | exact HB.out | apply below_alloc | apply pw_below_drewN | apply below_drew1) | exact HB.out))) : w.heap.size ≤ gb109)); have n3_ := Aside0.mk ((by rw [hg]; exact (below_size (by repeat (first | (with_reducible first | exact HB.out | apply below_alloc | apply pw_below_drewN | apply below_drew1) | exact HB.out))) : w.heap.size ≤ gb109)); clear HB; have HB := n0_; have BK109 := n1_; have GW109 := n2_; have GE109 := n3_; clear n0_ n1_ n2_ n3_; clear hb hbox hg) | ((with_reducible refine gate_dst (N := 6) rfl ?_); refine box_event ?hg (N := 6) ?hd (cs := #[.int .i64 0, .int .i64 0, .int .i64 0, .int .i64 0]) (t := 32) ?hr ?_; (case hd => rfl); (case hg => rfl); (case hr => first | (go_simp; done) | (go_simp; rfl)); intro gb110 hg w33 hbox hb; have n0_ := Aside0.mk (blk_below (g := gb109) (o := .cells #[.int .i64 0, .int .i64 0, .int .i64 0, .int .i64 0] 32 (0, 0)) (by (with_reducible repeat (first | refine blk_drewN ?_ _ | refine blk_drew ?_ | refine blk_alloc ?_ _)); exact BK109.out) hb); have n1_ := Aside0.mk (below_step (by repeat (first | (with_reducible first | exact HB.out | apply below_alloc | apply pw_below_drewN | apply below_drew1 | refine below_set ?_ GE109.out) | exact HB.out)) hb); have n2_ := Aside0.mk (hbox); have n3_ := Aside0.mk ((by rw [hg]; exact (below_size (by repeat (first | (with_reducible first | exact HB.out | apply below_alloc | apply pw_below_drewN | apply below_drew1 | refine below_set ?_ GE109.out) | exact HB.out))) : w.heap.size ≤ gb110)); have n4_ := Aside0.mk ((by rw [hg]; exact (below_size (by repeat (first | (with_reducible first | exact HB.out | apply below_alloc | apply pw_below_drewN | apply below_drew1 | refine below_set ?_ GE109.out) | exact HB.out))) : w.heap.size ≤ gb110)); have n5_ := Aside0.mk ((by rw [hg]; exact Nat.ne_of_lt (blk_lt (g := gb109) (o := .cells #[.int .i64 0, .int .i64 0, .int .i64 0, .int .i64 0] 32 (0, 0)) (by (with_reducible repeat (first | refine blk_drewN ?_ _ | refine blk_drew ?_ | refine blk_alloc ?_ _)); exact BK109.out)) : gb109 ≠ gb110)); have n6_ := Aside0.mk ((by rw [hg]; exact Nat.ne_of_gt (blk_lt (g := gb109) (o := .cells #[.int .i64 0, .int .i64 0, .int .i64 0, .int .i64 0] 32 (0, 0)) (by (with_reducible repeat (first | refine blk_drewN ?_ _ | refine blk_drew ?_ | refine blk_alloc ?_ _)); exact BK109.out)) : gb110 ≠ gb109)); clear BK109; clear HB; have BK109 := n0_; have HB := n1_; have BK110 := n2_; have GW110 := n3_; have GE110 := n4_; have NB109_110 := n5_; have NB110_109 := n6_; clear n0_ n1_ n2_ n3_ n4_ n5_ n6_; clear hb hbox hg; have hnb34 := NB110_109.out; have hnc34 := NB109_110.out; have hcz35_0 : w33.cell? ⟨gb110, 0, none⟩ = some (.int .i64 0) := (blk_cell BK110.out 0).trans rfl; have hcz35_1 : w33.cell? ⟨gb110, 1, none⟩ = some (.int .i64 0) := (blk_cell BK110.out 1).trans rfl; have hcz35_2 : w33.cell? ⟨gb110, 2, none⟩ = some (.int .i64 0) := (blk_cell BK110.out 2).trans rfl; have hcz35_3 : w33.cell? ⟨gb110, 3, none⟩ = some (.int .i64 0) := (blk_cell BK110.out 3).trans rfl; have hfz35_0 := blk_frozen BK110.out 0; have hfz35_1 := blk_frozen BK110.out 1; have hfz35_2 := blk_frozen BK110.out 2; have hfz35_3 := blk_frozen BK110.out 3; have p5 : 0 ≤ (a1 : Int) := of_decide_eq_true (by first | (with_reducible assumption) | assumption); have q5 : a1 < (a0.size : Int) := of_decide_eq_true (by first | (with_reducible assumption) | assumption); have hx5 := bt_at a0 a1; replace p5 := eq_true p5; replace q5 := eq_true q5) | ((with_reducible refine gate_callee (f := 26) rfl ?_); refine goesL_ (some 17) rfl rfl Try.func26 (by kernel_rfl) rfl #[.int .u8 (bt a0 a1)] rfl (by (try simp only [List.map_toArray, List.map_cons, List.map_nil]); first | done | rfl | (simp only [List.length_drop, List.length_take]; rfl)) ?_; (with_reducible refine (lexer_letter.calls (bt a0 a1) false _ A6.out).mono ?_); rintro e w' ⟨rfl, ⟨nd, rfl⟩⟩; refine ⟨_, rfl, ?_⟩) | ((with_reducible refine gate_callee (f := 33) rfl ?_); refine goesL_ (some 31) rfl rfl Try.func33 (by kernel_rfl) rfl #[.int .u8 (bt a0 a1)] rfl (by (try simp only [List.map_toArray, List.map_cons, List.map_nil]); first | done | rfl | (simp only [List.length_drop, List.length_take]; rfl)) ?_; (with_reducible refine (lexer_digit.calls (bt a0 a1) true _ A24.out).mono ?_); rintro e w' ⟨rfl, ⟨nd, rfl⟩⟩; refine ⟨_, rfl, ?_⟩) | ((with_reducible refine gate_callee (f := 25) rfl ?_); refine goesL_ (some 34) rfl rfl Try.func25 (by kernel_rfl) rfl #[.string a0, .int .i64 a1, .func (.func 33) #[] #[]] rfl (by (try simp only [List.map_toArray, List.map_cons, List.map_nil]); first | done | rfl | (simp only [List.length_drop, List.length_take]; rfl)) ?_; (with_reducible refine (lexer_while_at_lexer_digit.calls k a0 a1  t114 _ A26.out).mono ?_); rintro e w36 ⟨rfl, hb⟩; refine ⟨_, rfl, ?_⟩; have n0_ := Aside0.mk (blk_below (g := gb109) (o := .cells #[.int .i64 0, .int .i64 0, .int .i64 0, .int .i64 0] 32 (0, 0)) (by (with_reducible repeat (first | refine blk_drewN ?_ _ | refine blk_drew ?_ | refine blk_alloc ?_ _)); refine blk_far ?_ NB109_110.out _; (with_reducible repeat (first | refine blk_drewN ?_ _ | refine blk_drew ?_ | refine blk_alloc ?_ _)); refine blk_far ?_ NB109_110.out _; (with_reducible repeat (first | refine blk_drewN ?_ _ | refine blk_drew ?_ | refine blk_alloc ?_ _)); refine blk_far ?_ NB109_110.out _; (with_reducible repeat (first | refine blk_drewN ?_ _ | refine blk_drew ?_ | refine blk_alloc ?_ _)); refine blk_far ?_ NB109_110.out _; (with_reducible repeat (first | refine blk_drewN ?_ _ | refine blk_drew ?_ | refine blk_alloc ?_ _)); exact BK109.out) hb); have n1_ := Aside0.mk (blk_below (g := gb110) (o := .cells #[.int .i64 0, .int .i64 a1, .int .i64 0, .int .i64 0] 32 (0, 0)) (by (with_reducible repeat (first | refine blk_drewN ?_ _ | refine blk_drew ?_ | refine blk_alloc ?_ _)); refine blk_put (cs := #[.int .i64 0, .int .i64 a1, .int .i64 0, .int .i64 0]) ?_ 3 _ rfl; (with_reducible repeat (first | refine blk_drewN ?_ _ | refine blk_drew ?_ | refine blk_alloc ?_ _)); refine blk_put (cs := #[.int .i64 0, .int .i64 a1, .int .i64 0, .int .i64 0]) ?_ 2 _ rfl; (with_reducible repeat (first | refine blk_drewN ?_ _ | refine blk_drew ?_ | refine blk_alloc ?_ _)); refine blk_put (cs := #[.int .i64 0, .int .i64 0, .int .i64 0, .int .i64 0]) ?_ 1 _ rfl; (with_reducible repeat (first | refine blk_drewN ?_ _ | refine blk_drew ?_ | refine blk_alloc ?_ _)); refine blk_put (cs := #[.int .i64 0, .int .i64 0, .int .i64 0, .int .i64 0]) ?_ 0 _ rfl; (with_reducible repeat (first | refine blk_drewN ?_ _ | refine blk_drew ?_ | refine blk_alloc ?_ _)); exact BK110.out) hb); have n2_ := Aside0.mk (below_step (by repeat (first | (with_reducible first | exact HB.out | apply below_alloc | apply pw_below_drewN | apply below_drew1 | refine below_set ?_ GE109.out | refine below_set ?_ GE110.out) | exact HB.out)) hb); clear BK109; clear BK110; clear HB; have BK109 := n0_; have BK110 := n1_; have HB := n2_; clear n0_ n1_ n2_; (try clear hb); (try clear hb2); (try clear hk); (try clear hi); have hcz37_0 : w36.cell? ⟨gb110, 0, none⟩ = some (.int .i64 0) := (blk_cell BK110.out 0).trans rfl; have hcz37_1 : w36.cell? ⟨gb110, 1, none⟩ = some (.int .i64 a1) := (blk_cell BK110.out 1).trans rfl; have hcz37_2 : w36.cell? ⟨gb110, 2, none⟩ = some (.int .i64 0) := (blk_cell BK110.out 2).trans rfl; have hcz37_3 : w36.cell? ⟨gb110, 3, none⟩ = some (.int .i64 0) := (blk_cell BK110.out 3).trans rfl; have hfz37_0 := blk_frozen BK110.out 0; have hfz37_1 := blk_frozen BK110.out 1; have hfz37_2 := blk_frozen BK110.out 2; have hfz37_3 := blk_frozen BK110.out 3) | ((with_reducible refine gate_callee (f := 34) rfl ?_); refine goesL_ (some 43) rfl rfl Try.func34 (by kernel_rfl) rfl #[.string (a0.extract (a1 : Int).toNat (t114 : Int).toNat)] rfl (by (try simp only [List.map_toArray, List.map_cons, List.map_nil]); first | done | rfl | (simp only [List.length_drop, List.length_take]; rfl)) ?_; (with_reducible refine (lexer_number.calls (a0.extract (a1 : Int).toNat (t114 : Int).toNat) t115 t116 _ A30.out).mono ?_); rintro e w38 ⟨rfl, hb⟩; refine ⟨_, rfl, ?_⟩; have n0_ := Aside0.mk (blk_below (g := gb109) (o := .cells #[.int .i64 0, .int .i64 0, .int .i64 0, .int .i64 0] 32 (0, 0)) (by (with_reducible repeat (first | refine blk_drewN ?_ _ | refine blk_drew ?_ | refine blk_alloc ?_ _)); refine blk_far ?_ NB109_110.out _; (with_reducible repeat (first | refine blk_drewN ?_ _ | refine blk_drew ?_ | refine blk_alloc ?_ _)); refine blk_far ?_ NB109_110.out _; (with_reducible repeat (first | refine blk_drewN ?_ _ | refine blk_drew ?_ | refine blk_alloc ?_ _)); exact BK109.out) hb); have n1_ := Aside0.mk (blk_below (g := gb110) (o := .cells #[.int .i64 2, .int .i64 a1, .int .i64 t114, .int .i64 0] 32 (0, 0)) (by (with_reducible repeat (first | refine blk_drewN ?_ _ | refine blk_drew ?_ | refine blk_alloc ?_ _)); refine blk_put (cs := #[.int .i64 2, .int .i64 a1, .int .i64 0, .int .i64 0]) ?_ 2 _ rfl; (with_reducible repeat (first | refine blk_drewN ?_ _ | refine blk_drew ?_ | refine blk_alloc ?_ _)); refine blk_put (cs := #[.int .i64 0, .int .i64 a1, .int .i64 0, .int .i64 0]) ?_ 0 _ rfl; (with_reducible repeat (first | refine blk_drewN ?_ _ | refine blk_drew ?_ | refine blk_alloc ?_ _)); exact BK110.out) hb); have n2_ := Aside0.mk (below_step (by repeat (first | (with_reducible first | exact HB.out | apply below_alloc | apply pw_below_drewN | apply below_drew1 | refine below_set ?_ GE109.out | refine below_set ?_ GE110.out) | exact HB.out)) hb); clear BK109; clear BK110; clear HB; have BK109 := n0_; have BK110 := n1_; have HB := n2_; clear n0_ n1_ n2_; (try clear hb); (try clear hb2); (try clear hk); (try clear hi); have hcz39_0 : w38.cell? ⟨gb110, 0, none⟩ = some (.int .i64 2) := (blk_cell BK110.out 0).trans rfl; have hcz39_1 : w38.cell? ⟨gb110, 1, none⟩ = some (.int .i64 a1) := (blk_cell BK110.out 1).trans rfl; have hcz39_2 : w38.cell? ⟨gb110, 2, none⟩ = some (.int .i64 t114) := (blk_cell BK110.out 2).trans rfl; have hcz39_3 : w38.cell? ⟨gb110, 3, none⟩ = some (.int .i64 0) := (blk_cell BK110.out 3).trans rfl; have hfz39_0 := blk_frozen BK110.out 0; have hfz39_1 := blk_frozen BK110.out 1; have hfz39_2 := blk_frozen BK110.out 2; have hfz39_3 := blk_frozen BK110.out 3; have hcz40_0 : w38.cell? ⟨gb109, 0, none⟩ = some (.int .i64 0) := (blk_cell BK109.out 0).trans rfl; have hcz40_1 : w38.cell? ⟨gb109, 1, none⟩ = some (.int .i64 0) := (blk_cell BK109.out 1).trans rfl; have hcz40_2 : w38.cell? ⟨gb109, 2, none⟩ = some (.int .i64 0) := (blk_cell BK109.out 2).trans rfl; have hcz40_3 : w38.cell? ⟨gb109, 3, none⟩ = some (.int .i64 0) := (blk_cell BK109.out 3).trans rfl; have hfz40_0 := blk_frozen BK109.out 0; have hfz40_1 := blk_frozen BK109.out 1; have hfz40_2 := blk_frozen BK109.out 2; have hfz40_3 := blk_frozen BK109.out 3))
                refine bodyPost_ret (results_ct rfl _ _ gb109 32 #[.int .i64 2, .int .i64 a1, .int .i64 t114, .int .i64 t115] (0, 0) _ rfl (by (with_reducible repeat (first | refine blk_drewN ?_ _ | refine blk_drew ?_ | refine blk_alloc ?_ _)); refine blk_put (cs := #[.int .i64 2, .int .i64 a1, .int .i64 t114, .int .i64 0]) ?_ 3 _ rfl; (with_reducible repeat (first | refine blk_drewN ?_ _ | refine blk_drew ?_ | refine blk_alloc ?_ _)); refine blk_put (cs := #[.int .i64 2, .int .i64 a1, .int .i64 0, .int .i64 0]) ?_ 2 _ rfl; (with_reducible repeat (first | refine blk_drewN ?_ _ | refine blk_drew ?_ | refine blk_alloc ?_ _)); refine blk_put (cs := #[.int .i64 2, .int .i64 0, .int .i64 0, .int .i64 0]) ?_ 1 _ rfl; (with_reducible repeat (first | refine blk_drewN ?_ _ | refine blk_drew ?_ | refine blk_alloc ?_ _)); refine blk_put (cs := #[.int .i64 0, .int .i64 0, .int .i64 0, .int .i64 0]) ?_ 0 _ rfl; (with_reducible repeat (first | refine blk_drewN ?_ _ | refine blk_drew ?_ | refine blk_alloc ?_ _)); refine blk_far ?_ NB109_110.out _; (with_reducible repeat (first | refine blk_drewN ?_ _ | refine blk_drew ?_ | refine blk_alloc ?_ _)); exact BK109.out) Try.underlying32 rfl (by kernel_rfl)) rfl ?_
                exact ⟨by first | rfl | (simp [errW_none, errW_some] <;> rfl) | (simp [*, errW_none, errW_some] <;> rfl), by repeat (first | (with_reducible first | exact HB.out | apply below_alloc | apply pw_below_drewN | apply below_drew1 | refine below_set ?_ GE109.out | refine below_set ?_ GE110.out) | exact HB.out)⟩
              · rw [if_neg c31] at H
                have c31b0 : (t116 == 0) = false := beq_eq_false_iff_ne.mpr c31
                have c31b1 : (t116 != 0) = true := bne_iff_ne.mpr c31
                simp only [Option.some.injEq, Prod.mk.injEq] at H
                obtain ⟨rfl, rfl, rfl, rfl, rfl⟩ := H
                go_enter Try.func22, Try.ntmps22
                go_wp2_with (first | ((with_reducible refine gate_dst (N := 4) rfl ?_); refine box_event ?hg (N := 4) ?hd (cs := #[.int .i64 0, .int .i64 0, .int .i64 0, .int .i64 0]) (t := 32) ?hr ?_; (case hd => rfl); (case hg => rfl); (case hr => first | (go_simp; done) | (go_simp; rfl)); intro gb109 hg w41 hbox hb; have n0_ := Aside0.mk (below_step (by repeat (first | (with_reducible first | exact HB.out | apply below_alloc | apply pw_below_drewN | apply below_drew1) | exact HB.out)) hb); have n1_ := Aside0.mk (hbox); have n2_ := Aside0.mk ((by rw [hg]; exact (below_size (by repeat (first | (with_reducible first | exact HB.out | apply below_alloc | apply pw_below_drewN | apply below_drew1) | exact HB.out))) : w.heap.size ≤ gb109)); have n3_ := Aside0.mk ((by rw [hg]; exact (below_size (by repeat (first | (with_reducible first | exact HB.out | apply below_alloc | apply pw_below_drewN | apply below_drew1) | exact HB.out))) : w.heap.size ≤ gb109)); clear HB; have HB := n0_; have BK109 := n1_; have GW109 := n2_; have GE109 := n3_; clear n0_ n1_ n2_ n3_; clear hb hbox hg) | ((with_reducible refine gate_dst (N := 6) rfl ?_); refine box_event ?hg (N := 6) ?hd (cs := #[.int .i64 0, .int .i64 0, .int .i64 0, .int .i64 0]) (t := 32) ?hr ?_; (case hd => rfl); (case hg => rfl); (case hr => first | (go_simp; done) | (go_simp; rfl)); intro gb110 hg w42 hbox hb; have n0_ := Aside0.mk (blk_below (g := gb109) (o := .cells #[.int .i64 0, .int .i64 0, .int .i64 0, .int .i64 0] 32 (0, 0)) (by (with_reducible repeat (first | refine blk_drewN ?_ _ | refine blk_drew ?_ | refine blk_alloc ?_ _)); exact BK109.out) hb); have n1_ := Aside0.mk (below_step (by repeat (first | (with_reducible first | exact HB.out | apply below_alloc | apply pw_below_drewN | apply below_drew1 | refine below_set ?_ GE109.out) | exact HB.out)) hb); have n2_ := Aside0.mk (hbox); have n3_ := Aside0.mk ((by rw [hg]; exact (below_size (by repeat (first | (with_reducible first | exact HB.out | apply below_alloc | apply pw_below_drewN | apply below_drew1 | refine below_set ?_ GE109.out) | exact HB.out))) : w.heap.size ≤ gb110)); have n4_ := Aside0.mk ((by rw [hg]; exact (below_size (by repeat (first | (with_reducible first | exact HB.out | apply below_alloc | apply pw_below_drewN | apply below_drew1 | refine below_set ?_ GE109.out) | exact HB.out))) : w.heap.size ≤ gb110)); have n5_ := Aside0.mk ((by rw [hg]; exact Nat.ne_of_lt (blk_lt (g := gb109) (o := .cells #[.int .i64 0, .int .i64 0, .int .i64 0, .int .i64 0] 32 (0, 0)) (by (with_reducible repeat (first | refine blk_drewN ?_ _ | refine blk_drew ?_ | refine blk_alloc ?_ _)); exact BK109.out)) : gb109 ≠ gb110)); have n6_ := Aside0.mk ((by rw [hg]; exact Nat.ne_of_gt (blk_lt (g := gb109) (o := .cells #[.int .i64 0, .int .i64 0, .int .i64 0, .int .i64 0] 32 (0, 0)) (by (with_reducible repeat (first | refine blk_drewN ?_ _ | refine blk_drew ?_ | refine blk_alloc ?_ _)); exact BK109.out)) : gb110 ≠ gb109)); clear BK109; clear HB; have BK109 := n0_; have HB := n1_; have BK110 := n2_; have GW110 := n3_; have GE110 := n4_; have NB109_110 := n5_; have NB110_109 := n6_; clear n0_ n1_ n2_ n3_ n4_ n5_ n6_; clear hb hbox hg; have hnb43 := NB110_109.out; have hnc43 := NB109_110.out; have hcz44_0 : w42.cell? ⟨gb110, 0, none⟩ = some (.int .i64 0) := (blk_cell BK110.out 0).trans rfl; have hcz44_1 : w42.cell? ⟨gb110, 1, none⟩ = some (.int .i64 0) := (blk_cell BK110.out 1).trans rfl; have hcz44_2 : w42.cell? ⟨gb110, 2, none⟩ = some (.int .i64 0) := (blk_cell BK110.out 2).trans rfl; have hcz44_3 : w42.cell? ⟨gb110, 3, none⟩ = some (.int .i64 0) := (blk_cell BK110.out 3).trans rfl; have hfz44_0 := blk_frozen BK110.out 0; have hfz44_1 := blk_frozen BK110.out 1; have hfz44_2 := blk_frozen BK110.out 2; have hfz44_3 := blk_frozen BK110.out 3; have p5 : 0 ≤ (a1 : Int) := of_decide_eq_true (by first | (with_reducible assumption) | assumption); have q5 : a1 < (a0.size : Int) := of_decide_eq_true (by first | (with_reducible assumption) | assumption); have hx5 := bt_at a0 a1; replace p5 := eq_true p5; replace q5 := eq_true q5) | ((with_reducible refine gate_callee (f := 26) rfl ?_); refine goesL_ (some 17) rfl rfl Try.func26 (by kernel_rfl) rfl #[.int .u8 (bt a0 a1)] rfl (by (try simp only [List.map_toArray, List.map_cons, List.map_nil]); first | done | rfl | (simp only [List.length_drop, List.length_take]; rfl)) ?_; (with_reducible refine (lexer_letter.calls (bt a0 a1) false _ A6.out).mono ?_); rintro e w' ⟨rfl, ⟨nd, rfl⟩⟩; refine ⟨_, rfl, ?_⟩) | ((with_reducible refine gate_callee (f := 33) rfl ?_); refine goesL_ (some 31) rfl rfl Try.func33 (by kernel_rfl) rfl #[.int .u8 (bt a0 a1)] rfl (by (try simp only [List.map_toArray, List.map_cons, List.map_nil]); first | done | rfl | (simp only [List.length_drop, List.length_take]; rfl)) ?_; (with_reducible refine (lexer_digit.calls (bt a0 a1) true _ A24.out).mono ?_); rintro e w' ⟨rfl, ⟨nd, rfl⟩⟩; refine ⟨_, rfl, ?_⟩) | ((with_reducible refine gate_callee (f := 25) rfl ?_); refine goesL_ (some 34) rfl rfl Try.func25 (by kernel_rfl) rfl #[.string a0, .int .i64 a1, .func (.func 33) #[] #[]] rfl (by (try simp only [List.map_toArray, List.map_cons, List.map_nil]); first | done | rfl | (simp only [List.length_drop, List.length_take]; rfl)) ?_; (with_reducible refine (lexer_while_at_lexer_digit.calls k a0 a1  t114 _ A26.out).mono ?_); rintro e w45 ⟨rfl, hb⟩; refine ⟨_, rfl, ?_⟩; have n0_ := Aside0.mk (blk_below (g := gb109) (o := .cells #[.int .i64 0, .int .i64 0, .int .i64 0, .int .i64 0] 32 (0, 0)) (by (with_reducible repeat (first | refine blk_drewN ?_ _ | refine blk_drew ?_ | refine blk_alloc ?_ _)); refine blk_far ?_ NB109_110.out _; (with_reducible repeat (first | refine blk_drewN ?_ _ | refine blk_drew ?_ | refine blk_alloc ?_ _)); refine blk_far ?_ NB109_110.out _; (with_reducible repeat (first | refine blk_drewN ?_ _ | refine blk_drew ?_ | refine blk_alloc ?_ _)); refine blk_far ?_ NB109_110.out _; (with_reducible repeat (first | refine blk_drewN ?_ _ | refine blk_drew ?_ | refine blk_alloc ?_ _)); refine blk_far ?_ NB109_110.out _; (with_reducible repeat (first | refine blk_drewN ?_ _ | refine blk_drew ?_ | refine blk_alloc ?_ _)); exact BK109.out) hb); have n1_ := Aside0.mk (blk_below (g := gb110) (o := .cells #[.int .i64 0, .int .i64 a1, .int .i64 0, .int .i64 0] 32 (0, 0)) (by (with_reducible repeat (first | refine blk_drewN ?_ _ | refine blk_drew ?_ | refine blk_alloc ?_ _)); refine blk_put (cs := #[.int .i64 0, .int .i64 a1, .int .i64 0, .int .i64 0]) ?_ 3 _ rfl; (with_reducible repeat (first | refine blk_drewN ?_ _ | refine blk_drew ?_ | refine blk_alloc ?_ _)); refine blk_put (cs := #[.int .i64 0, .int .i64 a1, .int .i64 0, .int .i64 0]) ?_ 2 _ rfl; (with_reducible repeat (first | refine blk_drewN ?_ _ | refine blk_drew ?_ | refine blk_alloc ?_ _)); refine blk_put (cs := #[.int .i64 0, .int .i64 0, .int .i64 0, .int .i64 0]) ?_ 1 _ rfl; (with_reducible repeat (first | refine blk_drewN ?_ _ | refine blk_drew ?_ | refine blk_alloc ?_ _)); refine blk_put (cs := #[.int .i64 0, .int .i64 0, .int .i64 0, .int .i64 0]) ?_ 0 _ rfl; (with_reducible repeat (first | refine blk_drewN ?_ _ | refine blk_drew ?_ | refine blk_alloc ?_ _)); exact BK110.out) hb); have n2_ := Aside0.mk (below_step (by repeat (first | (with_reducible first | exact HB.out | apply below_alloc | apply pw_below_drewN | apply below_drew1 | refine below_set ?_ GE109.out | refine below_set ?_ GE110.out) | exact HB.out)) hb); clear BK109; clear BK110; clear HB; have BK109 := n0_; have BK110 := n1_; have HB := n2_; clear n0_ n1_ n2_; (try clear hb); (try clear hb2); (try clear hk); (try clear hi); have hcz46_0 : w45.cell? ⟨gb110, 0, none⟩ = some (.int .i64 0) := (blk_cell BK110.out 0).trans rfl; have hcz46_1 : w45.cell? ⟨gb110, 1, none⟩ = some (.int .i64 a1) := (blk_cell BK110.out 1).trans rfl; have hcz46_2 : w45.cell? ⟨gb110, 2, none⟩ = some (.int .i64 0) := (blk_cell BK110.out 2).trans rfl; have hcz46_3 : w45.cell? ⟨gb110, 3, none⟩ = some (.int .i64 0) := (blk_cell BK110.out 3).trans rfl; have hfz46_0 := blk_frozen BK110.out 0; have hfz46_1 := blk_frozen BK110.out 1; have hfz46_2 := blk_frozen BK110.out 2; have hfz46_3 := blk_frozen BK110.out 3) | ((with_reducible refine gate_callee (f := 34) rfl ?_); refine goesL_ (some 43) rfl rfl Try.func34 (by kernel_rfl) rfl #[.string (a0.extract (a1 : Int).toNat (t114 : Int).toNat)] rfl (by (try simp only [List.map_toArray, List.map_cons, List.map_nil]); first | done | rfl | (simp only [List.length_drop, List.length_take]; rfl)) ?_; (with_reducible refine (lexer_number.calls (a0.extract (a1 : Int).toNat (t114 : Int).toNat) t115 t116 _ A30.out).mono ?_); rintro e w47 ⟨rfl, hb⟩; refine ⟨_, rfl, ?_⟩; have n0_ := Aside0.mk (blk_below (g := gb109) (o := .cells #[.int .i64 0, .int .i64 0, .int .i64 0, .int .i64 0] 32 (0, 0)) (by (with_reducible repeat (first | refine blk_drewN ?_ _ | refine blk_drew ?_ | refine blk_alloc ?_ _)); refine blk_far ?_ NB109_110.out _; (with_reducible repeat (first | refine blk_drewN ?_ _ | refine blk_drew ?_ | refine blk_alloc ?_ _)); refine blk_far ?_ NB109_110.out _; (with_reducible repeat (first | refine blk_drewN ?_ _ | refine blk_drew ?_ | refine blk_alloc ?_ _)); exact BK109.out) hb); have n1_ := Aside0.mk (blk_below (g := gb110) (o := .cells #[.int .i64 2, .int .i64 a1, .int .i64 t114, .int .i64 0] 32 (0, 0)) (by (with_reducible repeat (first | refine blk_drewN ?_ _ | refine blk_drew ?_ | refine blk_alloc ?_ _)); refine blk_put (cs := #[.int .i64 2, .int .i64 a1, .int .i64 0, .int .i64 0]) ?_ 2 _ rfl; (with_reducible repeat (first | refine blk_drewN ?_ _ | refine blk_drew ?_ | refine blk_alloc ?_ _)); refine blk_put (cs := #[.int .i64 0, .int .i64 a1, .int .i64 0, .int .i64 0]) ?_ 0 _ rfl; (with_reducible repeat (first | refine blk_drewN ?_ _ | refine blk_drew ?_ | refine blk_alloc ?_ _)); exact BK110.out) hb); have n2_ := Aside0.mk (below_step (by repeat (first | (with_reducible first | exact HB.out | apply below_alloc | apply pw_below_drewN | apply below_drew1 | refine below_set ?_ GE109.out | refine below_set ?_ GE110.out) | exact HB.out)) hb); clear BK109; clear BK110; clear HB; have BK109 := n0_; have BK110 := n1_; have HB := n2_; clear n0_ n1_ n2_; (try clear hb); (try clear hb2); (try clear hk); (try clear hi); have hcz48_0 : w47.cell? ⟨gb110, 0, none⟩ = some (.int .i64 2) := (blk_cell BK110.out 0).trans rfl; have hcz48_1 : w47.cell? ⟨gb110, 1, none⟩ = some (.int .i64 a1) := (blk_cell BK110.out 1).trans rfl; have hcz48_2 : w47.cell? ⟨gb110, 2, none⟩ = some (.int .i64 t114) := (blk_cell BK110.out 2).trans rfl; have hcz48_3 : w47.cell? ⟨gb110, 3, none⟩ = some (.int .i64 0) := (blk_cell BK110.out 3).trans rfl; have hfz48_0 := blk_frozen BK110.out 0; have hfz48_1 := blk_frozen BK110.out 1; have hfz48_2 := blk_frozen BK110.out 2; have hfz48_3 := blk_frozen BK110.out 3; have hcz49_0 : w47.cell? ⟨gb109, 0, none⟩ = some (.int .i64 0) := (blk_cell BK109.out 0).trans rfl; have hcz49_1 : w47.cell? ⟨gb109, 1, none⟩ = some (.int .i64 0) := (blk_cell BK109.out 1).trans rfl; have hcz49_2 : w47.cell? ⟨gb109, 2, none⟩ = some (.int .i64 0) := (blk_cell BK109.out 2).trans rfl; have hcz49_3 : w47.cell? ⟨gb109, 3, none⟩ = some (.int .i64 0) := (blk_cell BK109.out 3).trans rfl; have hfz49_0 := blk_frozen BK109.out 0; have hfz49_1 := blk_frozen BK109.out 1; have hfz49_2 := blk_frozen BK109.out 2; have hfz49_3 := blk_frozen BK109.out 3))
                refine bodyPost_ret (results_ct rfl _ _ gb109 32 #[.int .i64 2, .int .i64 a1, .int .i64 t114, .int .i64 t115] (0, 0) _ rfl (by (with_reducible repeat (first | refine blk_drewN ?_ _ | refine blk_drew ?_ | refine blk_alloc ?_ _)); refine blk_put (cs := #[.int .i64 2, .int .i64 a1, .int .i64 t114, .int .i64 0]) ?_ 3 _ rfl; (with_reducible repeat (first | refine blk_drewN ?_ _ | refine blk_drew ?_ | refine blk_alloc ?_ _)); refine blk_put (cs := #[.int .i64 2, .int .i64 a1, .int .i64 0, .int .i64 0]) ?_ 2 _ rfl; (with_reducible repeat (first | refine blk_drewN ?_ _ | refine blk_drew ?_ | refine blk_alloc ?_ _)); refine blk_put (cs := #[.int .i64 2, .int .i64 0, .int .i64 0, .int .i64 0]) ?_ 1 _ rfl; (with_reducible repeat (first | refine blk_drewN ?_ _ | refine blk_drew ?_ | refine blk_alloc ?_ _)); refine blk_put (cs := #[.int .i64 0, .int .i64 0, .int .i64 0, .int .i64 0]) ?_ 0 _ rfl; (with_reducible repeat (first | refine blk_drewN ?_ _ | refine blk_drew ?_ | refine blk_alloc ?_ _)); refine blk_far ?_ NB109_110.out _; (with_reducible repeat (first | refine blk_drewN ?_ _ | refine blk_drew ?_ | refine blk_alloc ?_ _)); exact BK109.out) Try.underlying32 rfl (by kernel_rfl)) rfl ?_
                exact ⟨by first | rfl | (simp [errW_none, errW_some] <;> rfl) | (simp [*, errW_none, errW_some] <;> rfl), by repeat (first | (with_reducible first | exact HB.out | apply below_alloc | apply pw_below_drewN | apply below_drew1 | refine below_set ?_ GE109.out | refine below_set ?_ GE110.out) | exact HB.out)⟩
            · rw [if_neg c29] at H
              exact absurd H (by simp)
          · rw [if_neg c28] at H
            exact absurd H (by simp)
        · replace c25 := Bool.eq_false_iff.mpr c25
          subst c25
          have H1 : (if (wrap64 (a1 + 2)) ≤ (a0.size : Int) then (if a1 ≤ (wrap64 (a1 + 2)) then ((strings_ContainsRune.f (a0.extract (a1 : Int).toNat ((wrap64 (a1 + 2)) : Int).toNat) 32).bind fun t117 => (if t117 = true then (lexer_next.j0 k a1 (bt a0 a1) false 0 a1 0 0) else (if 1 + (a0.extract (a1 : Int).toNat ((wrap64 (a1 + 2)) : Int).toNat).size ≤ 9223372036854775807 then (if ((⟨#[32]⟩ : ByteArray) ++ (a0.extract (a1 : Int).toNat ((wrap64 (a1 + 2)) : Int).toNat)).size + 1 ≤ 9223372036854775807 then ((strings_Contains.f (⟨#[32, 46, 46, 32, 45, 62, 32, 58, 61, 32, 38, 38, 32, 124, 124, 32, 61, 61, 32, 33, 61, 32, 60, 61, 32, 62, 61, 32]⟩ : ByteArray) (((⟨#[32]⟩ : ByteArray) ++ (a0.extract (a1 : Int).toNat ((wrap64 (a1 + 2)) : Int).toNat)) ++ (⟨#[32]⟩ : ByteArray))).bind fun t118 => (lexer_next.j0 k a1 (bt a0 a1) t118 0 a1 0 0)) else (none)) else (none)))) else (none)) else (lexer_next.j0 k a1 (bt a0 a1) false 0 a1 0 0)) = some (r1, r2, r3, r4, r5) := by rw [if_neg (show ¬ (false = true) by decide)] at H; exact H
          clear H
          have H := H1
          clear H1
          have HC50 := Aside0.mk H
          clear H
          go_enter Try.func22, Try.ntmps22
          go_upto_region 14 with (first | ((with_reducible refine gate_dst (N := 4) rfl ?_); refine box_event ?hg (N := 4) ?hd (cs := #[.int .i64 0, .int .i64 0, .int .i64 0, .int .i64 0]) (t := 32) ?hr ?_; (case hd => rfl); (case hg => rfl); (case hr => first | (go_simp; done) | (go_simp; rfl)); intro gb109 hg w51 hbox hb; have n0_ := Aside0.mk (below_step (by repeat (first | (with_reducible first | exact HB.out | apply below_alloc | apply pw_below_drewN | apply below_drew1) | exact HB.out)) hb); have n1_ := Aside0.mk (hbox); have n2_ := Aside0.mk ((by rw [hg]; exact (below_size (by repeat (first | (with_reducible first | exact HB.out | apply below_alloc | apply pw_below_drewN | apply below_drew1) | exact HB.out))) : w.heap.size ≤ gb109)); have n3_ := Aside0.mk ((by rw [hg]; exact (below_size (by repeat (first | (with_reducible first | exact HB.out | apply below_alloc | apply pw_below_drewN | apply below_drew1) | exact HB.out))) : w.heap.size ≤ gb109)); clear HB; have HB := n0_; have BK109 := n1_; have GW109 := n2_; have GE109 := n3_; clear n0_ n1_ n2_ n3_; clear hb hbox hg) | ((with_reducible refine gate_dst (N := 6) rfl ?_); refine box_event ?hg (N := 6) ?hd (cs := #[.int .i64 0, .int .i64 0, .int .i64 0, .int .i64 0]) (t := 32) ?hr ?_; (case hd => rfl); (case hg => rfl); (case hr => first | (go_simp; done) | (go_simp; rfl)); intro gb110 hg w52 hbox hb; have n0_ := Aside0.mk (blk_below (g := gb109) (o := .cells #[.int .i64 0, .int .i64 0, .int .i64 0, .int .i64 0] 32 (0, 0)) (by (with_reducible repeat (first | refine blk_drewN ?_ _ | refine blk_drew ?_ | refine blk_alloc ?_ _)); exact BK109.out) hb); have n1_ := Aside0.mk (below_step (by repeat (first | (with_reducible first | exact HB.out | apply below_alloc | apply pw_below_drewN | apply below_drew1 | refine below_set ?_ GE109.out) | exact HB.out)) hb); have n2_ := Aside0.mk (hbox); have n3_ := Aside0.mk ((by rw [hg]; exact (below_size (by repeat (first | (with_reducible first | exact HB.out | apply below_alloc | apply pw_below_drewN | apply below_drew1 | refine below_set ?_ GE109.out) | exact HB.out))) : w.heap.size ≤ gb110)); have n4_ := Aside0.mk ((by rw [hg]; exact (below_size (by repeat (first | (with_reducible first | exact HB.out | apply below_alloc | apply pw_below_drewN | apply below_drew1 | refine below_set ?_ GE109.out) | exact HB.out))) : w.heap.size ≤ gb110)); have n5_ := Aside0.mk ((by rw [hg]; exact Nat.ne_of_lt (blk_lt (g := gb109) (o := .cells #[.int .i64 0, .int .i64 0, .int .i64 0, .int .i64 0] 32 (0, 0)) (by (with_reducible repeat (first | refine blk_drewN ?_ _ | refine blk_drew ?_ | refine blk_alloc ?_ _)); exact BK109.out)) : gb109 ≠ gb110)); have n6_ := Aside0.mk ((by rw [hg]; exact Nat.ne_of_gt (blk_lt (g := gb109) (o := .cells #[.int .i64 0, .int .i64 0, .int .i64 0, .int .i64 0] 32 (0, 0)) (by (with_reducible repeat (first | refine blk_drewN ?_ _ | refine blk_drew ?_ | refine blk_alloc ?_ _)); exact BK109.out)) : gb110 ≠ gb109)); clear BK109; clear HB; have BK109 := n0_; have HB := n1_; have BK110 := n2_; have GW110 := n3_; have GE110 := n4_; have NB109_110 := n5_; have NB110_109 := n6_; clear n0_ n1_ n2_ n3_ n4_ n5_ n6_; clear hb hbox hg; have hnb53 := NB110_109.out; have hnc53 := NB109_110.out; have hcz54_0 : w52.cell? ⟨gb110, 0, none⟩ = some (.int .i64 0) := (blk_cell BK110.out 0).trans rfl; have hcz54_1 : w52.cell? ⟨gb110, 1, none⟩ = some (.int .i64 0) := (blk_cell BK110.out 1).trans rfl; have hcz54_2 : w52.cell? ⟨gb110, 2, none⟩ = some (.int .i64 0) := (blk_cell BK110.out 2).trans rfl; have hcz54_3 : w52.cell? ⟨gb110, 3, none⟩ = some (.int .i64 0) := (blk_cell BK110.out 3).trans rfl; have hfz54_0 := blk_frozen BK110.out 0; have hfz54_1 := blk_frozen BK110.out 1; have hfz54_2 := blk_frozen BK110.out 2; have hfz54_3 := blk_frozen BK110.out 3; have p5 : 0 ≤ (a1 : Int) := of_decide_eq_true (by first | (with_reducible assumption) | assumption); have q5 : a1 < (a0.size : Int) := of_decide_eq_true (by first | (with_reducible assumption) | assumption); have hx5 := bt_at a0 a1; replace p5 := eq_true p5; replace q5 := eq_true q5) | ((with_reducible refine gate_callee (f := 26) rfl ?_); refine goesL_ (some 17) rfl rfl Try.func26 (by kernel_rfl) rfl #[.int .u8 (bt a0 a1)] rfl (by (try simp only [List.map_toArray, List.map_cons, List.map_nil]); first | done | rfl | (simp only [List.length_drop, List.length_take]; rfl)) ?_; (with_reducible refine (lexer_letter.calls (bt a0 a1) false _ A6.out).mono ?_); rintro e w' ⟨rfl, ⟨nd, rfl⟩⟩; refine ⟨_, rfl, ?_⟩) | ((with_reducible refine gate_callee (f := 33) rfl ?_); refine goesL_ (some 31) rfl rfl Try.func33 (by kernel_rfl) rfl #[.int .u8 (bt a0 a1)] rfl (by (try simp only [List.map_toArray, List.map_cons, List.map_nil]); first | done | rfl | (simp only [List.length_drop, List.length_take]; rfl)) ?_; (with_reducible refine (lexer_digit.calls (bt a0 a1) false _ A24.out).mono ?_); rintro e w' ⟨rfl, ⟨nd, rfl⟩⟩; refine ⟨_, rfl, ?_⟩))
          (try simp only [Act.put, List.setIfInBounds_toArray, List.set_cons_zero, List.set_cons_succ])
          go_cut [51] (fun v51 wc => ∃ (kq : Nat) (x51_49 : Bool), v51 = .bool x51_49 ∧ Aside0 (lexer_next.j0 kq a1 (bt a0 a1) x51_49 0 a1 0 0 = some (r1, r2, r3, r4, r5)) ∧ Aside0 (kq ≤ k) ∧ Aside0 (wc.heap[gb109]? = some (.cells #[.int .i64 0, .int .i64 0, .int .i64 0, .int .i64 0] 32 (0, 0))) ∧ Aside0 (wc.heap[gb110]? = some (.cells #[.int .i64 0, .int .i64 a1, .int .i64 0, .int .i64 0] 32 (0, 0))) ∧ Aside0 (Below w.heap.size w wc))
          case first =>
            have H := HC50.out
            clear HC50
            by_cases c55 : (wrap64 (a1 + 2)) ≤ (a0.size : Int)
            · rw [if_pos c55] at H
              have c55b0 : decide ((wrap64 (a1 + 2)) ≤ (a0.size : Int)) = true := decide_eq_true c55
              clear c55
              (first | rw [c55b0] | (simp only [i64_w, i32_w]; rw [c55b0]) | skip)
              have c56b0 := eq_true (of_decide_eq_true (by first | (with_reducible assumption) | assumption) : 0 ≤ a1)
              by_cases c57 : a1 ≤ (wrap64 (a1 + 2))
              · rw [if_pos c57] at H
                have c57b0 := eq_true c57
                have c57b1 : decide (a1 ≤ (wrap64 (a1 + 2))) = true := decide_eq_true c57
                have c58b0 := eq_true (of_decide_eq_true (by first | (with_reducible assumption) | assumption) : (wrap64 (a1 + 2)) ≤ (a0.size : Int))
                replace H := Option.bind_eq_some_iff.mp H
                obtain ⟨t117, A590, H⟩ := H
                replace H : (if t117 = true then (lexer_next.j0 k a1 (bt a0 a1) false 0 a1 0 0) else (if 1 + (a0.extract (a1 : Int).toNat ((wrap64 (a1 + 2)) : Int).toNat).size ≤ 9223372036854775807 then (if ((⟨#[32]⟩ : ByteArray) ++ (a0.extract (a1 : Int).toNat ((wrap64 (a1 + 2)) : Int).toNat)).size + 1 ≤ 9223372036854775807 then ((strings_Contains.f (⟨#[32, 46, 46, 32, 45, 62, 32, 58, 61, 32, 38, 38, 32, 124, 124, 32, 61, 61, 32, 33, 61, 32, 60, 61, 32, 62, 61, 32]⟩ : ByteArray) (((⟨#[32]⟩ : ByteArray) ++ (a0.extract (a1 : Int).toNat ((wrap64 (a1 + 2)) : Int).toNat)) ++ (⟨#[32]⟩ : ByteArray))).bind fun t118 => (lexer_next.j0 k a1 (bt a0 a1) t118 0 a1 0 0)) else (none)) else (none))) = some (r1, r2, r3, r4, r5) := H
                have A59 := Aside0.mk A590
                clear A590
                by_cases c60 : t117 = true
                · subst c60
                  have H1 : (lexer_next.j0 k a1 (bt a0 a1) false 0 a1 0 0) = some (r1, r2, r3, r4, r5) := by rw [if_pos rfl] at H; exact H
                  clear H
                  have H := H1
                  clear H1
                  have H' := Aside0.mk H
                  clear H
                  go_wp2_with (first | (go_at_call 35; (with_reducible refine (strings_ContainsRune.calls (a0.extract (a1 : Int).toNat ((wrap64 (a1 + 2)) : Int).toNat) 32 true _ A59.out).mono ?_); rintro e w' ⟨rfl, ⟨nd, rfl⟩⟩))
                  go_meet
                  case rel => exact ⟨_, (false), (by first | rfl | (simp; done) | (simp [*]; done)), H', ⟨by first | omega | exact Nat.le_refl _⟩, ⟨by (with_reducible repeat (first | refine blk_drewN ?_ _ | refine blk_drew ?_ | refine blk_alloc ?_ _)); refine blk_far ?_ NB109_110.out _; (with_reducible repeat (first | refine blk_drewN ?_ _ | refine blk_drew ?_ | refine blk_alloc ?_ _)); refine blk_far ?_ NB109_110.out _; (with_reducible repeat (first | refine blk_drewN ?_ _ | refine blk_drew ?_ | refine blk_alloc ?_ _)); refine blk_far ?_ NB109_110.out _; (with_reducible repeat (first | refine blk_drewN ?_ _ | refine blk_drew ?_ | refine blk_alloc ?_ _)); refine blk_far ?_ NB109_110.out _; (with_reducible repeat (first | refine blk_drewN ?_ _ | refine blk_drew ?_ | refine blk_alloc ?_ _)); exact BK109.out⟩, ⟨by (with_reducible repeat (first | refine blk_drewN ?_ _ | refine blk_drew ?_ | refine blk_alloc ?_ _)); refine blk_put (cs := #[.int .i64 0, .int .i64 a1, .int .i64 0, .int .i64 0]) ?_ 3 _ rfl; (with_reducible repeat (first | refine blk_drewN ?_ _ | refine blk_drew ?_ | refine blk_alloc ?_ _)); refine blk_put (cs := #[.int .i64 0, .int .i64 a1, .int .i64 0, .int .i64 0]) ?_ 2 _ rfl; (with_reducible repeat (first | refine blk_drewN ?_ _ | refine blk_drew ?_ | refine blk_alloc ?_ _)); refine blk_put (cs := #[.int .i64 0, .int .i64 0, .int .i64 0, .int .i64 0]) ?_ 1 _ rfl; (with_reducible repeat (first | refine blk_drewN ?_ _ | refine blk_drew ?_ | refine blk_alloc ?_ _)); refine blk_put (cs := #[.int .i64 0, .int .i64 0, .int .i64 0, .int .i64 0]) ?_ 0 _ rfl; (with_reducible repeat (first | refine blk_drewN ?_ _ | refine blk_drew ?_ | refine blk_alloc ?_ _)); exact BK110.out⟩, ⟨by repeat (first | (with_reducible first | exact HB.out | apply below_alloc | apply pw_below_drewN | apply below_drew1 | refine below_set ?_ GE109.out | refine below_set ?_ GE110.out) | exact HB.out)⟩⟩
                · replace c60 := Bool.eq_false_iff.mpr c60
                  subst c60
                  have H1 : (if 1 + (a0.extract (a1 : Int).toNat ((wrap64 (a1 + 2)) : Int).toNat).size ≤ 9223372036854775807 then (if ((⟨#[32]⟩ : ByteArray) ++ (a0.extract (a1 : Int).toNat ((wrap64 (a1 + 2)) : Int).toNat)).size + 1 ≤ 9223372036854775807 then ((strings_Contains.f (⟨#[32, 46, 46, 32, 45, 62, 32, 58, 61, 32, 38, 38, 32, 124, 124, 32, 61, 61, 32, 33, 61, 32, 60, 61, 32, 62, 61, 32]⟩ : ByteArray) (((⟨#[32]⟩ : ByteArray) ++ (a0.extract (a1 : Int).toNat ((wrap64 (a1 + 2)) : Int).toNat)) ++ (⟨#[32]⟩ : ByteArray))).bind fun t118 => (lexer_next.j0 k a1 (bt a0 a1) t118 0 a1 0 0)) else (none)) else (none)) = some (r1, r2, r3, r4, r5) := by rw [if_neg (show ¬ (false = true) by decide)] at H; exact H
                  clear H
                  have H := H1
                  clear H1
                  have c61b0 := eq_true (of_decide_eq_true (by first | (with_reducible assumption) | assumption) : 0 ≤ a1)
                  have c62b0 := eq_true (of_decide_eq_true (by first | (with_reducible assumption) | assumption) : a1 ≤ (wrap64 (a1 + 2)))
                  have c63b0 := eq_true (of_decide_eq_true (by first | (with_reducible assumption) | assumption) : (wrap64 (a1 + 2)) ≤ (a0.size : Int))
                  by_cases c64 : 1 + (a0.extract (a1 : Int).toNat ((wrap64 (a1 + 2)) : Int).toNat).size ≤ 9223372036854775807
                  · rw [if_pos c64] at H
                    have c64b0 := eq_true c64
                    have c64b1 : decide (1 + (a0.extract (a1 : Int).toNat ((wrap64 (a1 + 2)) : Int).toNat).size ≤ 9223372036854775807) = true := decide_eq_true c64
                    try have c64b3 : (9223372036854775807 < 1 + ((wrap64 (a1 + 2)).toNat - a1.toNat)) = False := eq_false (by have h_ := c64; have hq0_ : ((wrap64 (a1 + 2)) : Int) ≤ (a0.size : Int) := of_decide_eq_true (by first | (with_reducible assumption) | assumption); simp only [ByteArray.size_append, ByteArray.size_extract] at h_; omega)
                    try have c64b2 : (9223372036854775807 < 1 + (a0.extract (a1 : Int).toNat ((wrap64 (a1 + 2)) : Int).toNat).size) = False := eq_false (Nat.not_lt.2 c64)
                    by_cases c65 : ((⟨#[32]⟩ : ByteArray) ++ (a0.extract (a1 : Int).toNat ((wrap64 (a1 + 2)) : Int).toNat)).size + 1 ≤ 9223372036854775807
                    · rw [if_pos c65] at H
                      have c65b0 := eq_true c65
                      have c65b1 : decide (((⟨#[32]⟩ : ByteArray) ++ (a0.extract (a1 : Int).toNat ((wrap64 (a1 + 2)) : Int).toNat)).size + 1 ≤ 9223372036854775807) = true := decide_eq_true c65
                      try have c65b3 : (9223372036854775807 < 1 + ((wrap64 (a1 + 2)).toNat - a1.toNat) + 1) = False := eq_false (by have h_ := c65; have hl0_ : (⟨#[32]⟩ : ByteArray).size = 1 := rfl; have hq0_ : ((wrap64 (a1 + 2)) : Int) ≤ (a0.size : Int) := of_decide_eq_true (by first | (with_reducible assumption) | assumption); simp only [ByteArray.size_append, ByteArray.size_extract] at h_; omega)
                      try have c65b2 : (9223372036854775807 < ((⟨#[32]⟩ : ByteArray) ++ (a0.extract (a1 : Int).toNat ((wrap64 (a1 + 2)) : Int).toNat)).size + 1) = False := eq_false (Nat.not_lt.2 c65)
                      replace H := Option.bind_eq_some_iff.mp H
                      obtain ⟨t118, A660, H⟩ := H
                      replace H : (lexer_next.j0 k a1 (bt a0 a1) t118 0 a1 0 0) = some (r1, r2, r3, r4, r5) := H
                      have A66 := Aside0.mk A660
                      clear A660
                      have H' := Aside0.mk H
                      clear H
                      go_wp2_with (first | (go_at_call 35; (with_reducible refine (strings_ContainsRune.calls (a0.extract (a1 : Int).toNat ((wrap64 (a1 + 2)) : Int).toNat) 32 false _ A59.out).mono ?_); rintro e w' ⟨rfl, ⟨nd, rfl⟩⟩) | (go_at_call 27; (with_reducible refine (strings_Contains.calls (⟨#[32, 46, 46, 32, 45, 62, 32, 58, 61, 32, 38, 38, 32, 124, 124, 32, 61, 61, 32, 33, 61, 32, 60, 61, 32, 62, 61, 32]⟩ : ByteArray) (((⟨#[32]⟩ : ByteArray) ++ (a0.extract (a1 : Int).toNat ((wrap64 (a1 + 2)) : Int).toNat)) ++ (⟨#[32]⟩ : ByteArray)) t118 _ ?side1 A66.out).mono ?_); (case side1 => first | ((with_reducible repeat (first | exact HSHP.out | refine Shp.alloc ?_ _ | refine Shp.drewN ?_ _ | refine Shp.drew ?_)); done) | (with_reducible refine Shp.below HSHP.out ?_; repeat (first | (with_reducible first | exact HB.out | apply below_alloc | apply pw_below_drewN | apply below_drew1 | refine below_set ?_ GE109.out | refine below_set ?_ GE110.out) | exact HB.out))); rintro e w' ⟨rfl, ⟨nd, rfl⟩⟩))
                      go_meet
                      case rel => exact ⟨_, (t118), (by first | rfl | (simp; done) | (simp [*]; done)), H', ⟨by first | omega | exact Nat.le_refl _⟩, ⟨by (with_reducible repeat (first | refine blk_drewN ?_ _ | refine blk_drew ?_ | refine blk_alloc ?_ _)); refine blk_far ?_ NB109_110.out _; (with_reducible repeat (first | refine blk_drewN ?_ _ | refine blk_drew ?_ | refine blk_alloc ?_ _)); refine blk_far ?_ NB109_110.out _; (with_reducible repeat (first | refine blk_drewN ?_ _ | refine blk_drew ?_ | refine blk_alloc ?_ _)); refine blk_far ?_ NB109_110.out _; (with_reducible repeat (first | refine blk_drewN ?_ _ | refine blk_drew ?_ | refine blk_alloc ?_ _)); refine blk_far ?_ NB109_110.out _; (with_reducible repeat (first | refine blk_drewN ?_ _ | refine blk_drew ?_ | refine blk_alloc ?_ _)); exact BK109.out⟩, ⟨by (with_reducible repeat (first | refine blk_drewN ?_ _ | refine blk_drew ?_ | refine blk_alloc ?_ _)); refine blk_put (cs := #[.int .i64 0, .int .i64 a1, .int .i64 0, .int .i64 0]) ?_ 3 _ rfl; (with_reducible repeat (first | refine blk_drewN ?_ _ | refine blk_drew ?_ | refine blk_alloc ?_ _)); refine blk_put (cs := #[.int .i64 0, .int .i64 a1, .int .i64 0, .int .i64 0]) ?_ 2 _ rfl; (with_reducible repeat (first | refine blk_drewN ?_ _ | refine blk_drew ?_ | refine blk_alloc ?_ _)); refine blk_put (cs := #[.int .i64 0, .int .i64 0, .int .i64 0, .int .i64 0]) ?_ 1 _ rfl; (with_reducible repeat (first | refine blk_drewN ?_ _ | refine blk_drew ?_ | refine blk_alloc ?_ _)); refine blk_put (cs := #[.int .i64 0, .int .i64 0, .int .i64 0, .int .i64 0]) ?_ 0 _ rfl; (with_reducible repeat (first | refine blk_drewN ?_ _ | refine blk_drew ?_ | refine blk_alloc ?_ _)); exact BK110.out⟩, ⟨by repeat (first | (with_reducible first | exact HB.out | apply below_alloc | apply pw_below_drewN | apply below_drew1 | refine below_set ?_ GE109.out | refine below_set ?_ GE110.out) | exact HB.out)⟩⟩
                    · rw [if_neg c65] at H
                      exact absurd H (by simp)
                  · rw [if_neg c64] at H
                    exact absurd H (by simp)
              · rw [if_neg c57] at H
                exact absurd H (by simp)
            · rw [if_neg c55] at H
              have c55b0 : decide ((wrap64 (a1 + 2)) ≤ (a0.size : Int)) = false := decide_eq_false c55
              clear c55
              (first | rw [c55b0] | (simp only [i64_w, i32_w]; rw [c55b0]) | skip)
              have H' := Aside0.mk H
              clear H
              go_wp2
              go_meet
              case rel => exact ⟨_, (false), (by first | rfl | (simp; done) | (simp [*]; done)), H', ⟨by first | omega | exact Nat.le_refl _⟩, ⟨by (with_reducible repeat (first | refine blk_drewN ?_ _ | refine blk_drew ?_ | refine blk_alloc ?_ _)); refine blk_far ?_ NB109_110.out _; (with_reducible repeat (first | refine blk_drewN ?_ _ | refine blk_drew ?_ | refine blk_alloc ?_ _)); refine blk_far ?_ NB109_110.out _; (with_reducible repeat (first | refine blk_drewN ?_ _ | refine blk_drew ?_ | refine blk_alloc ?_ _)); refine blk_far ?_ NB109_110.out _; (with_reducible repeat (first | refine blk_drewN ?_ _ | refine blk_drew ?_ | refine blk_alloc ?_ _)); refine blk_far ?_ NB109_110.out _; (with_reducible repeat (first | refine blk_drewN ?_ _ | refine blk_drew ?_ | refine blk_alloc ?_ _)); exact BK109.out⟩, ⟨by (with_reducible repeat (first | refine blk_drewN ?_ _ | refine blk_drew ?_ | refine blk_alloc ?_ _)); refine blk_put (cs := #[.int .i64 0, .int .i64 a1, .int .i64 0, .int .i64 0]) ?_ 3 _ rfl; (with_reducible repeat (first | refine blk_drewN ?_ _ | refine blk_drew ?_ | refine blk_alloc ?_ _)); refine blk_put (cs := #[.int .i64 0, .int .i64 a1, .int .i64 0, .int .i64 0]) ?_ 2 _ rfl; (with_reducible repeat (first | refine blk_drewN ?_ _ | refine blk_drew ?_ | refine blk_alloc ?_ _)); refine blk_put (cs := #[.int .i64 0, .int .i64 0, .int .i64 0, .int .i64 0]) ?_ 1 _ rfl; (with_reducible repeat (first | refine blk_drewN ?_ _ | refine blk_drew ?_ | refine blk_alloc ?_ _)); refine blk_put (cs := #[.int .i64 0, .int .i64 0, .int .i64 0, .int .i64 0]) ?_ 0 _ rfl; (with_reducible repeat (first | refine blk_drewN ?_ _ | refine blk_drew ?_ | refine blk_alloc ?_ _)); exact BK110.out⟩, ⟨by repeat (first | (with_reducible first | exact HB.out | apply below_alloc | apply pw_below_drewN | apply below_drew1 | refine below_set ?_ GE109.out | refine below_set ?_ GE110.out) | exact HB.out)⟩⟩
          case rest =>
            clear HC50
            try clear c1
            try clear c2
            try clear p2
            try clear c3
            try clear c3b0
            try clear c4
            try clear c4b0
            try clear c5
            try clear p5
            try clear q5
            try clear hx5
            try clear c6
            try clear p6
            try clear c7
            try clear c9
            try clear c9b0
            try clear c12
            try clear c19
            try clear c22
            try clear c25
            try clear c26
            try clear c27
            try clear c27b0
            try clear c28
            try clear c28b0
            try clear c28b1
            try clear c29
            try clear c29b0
            try clear c29b1
            try clear c31
            try clear c31b0
            try clear c31b1
            try clear c33
            try clear c34
            try clear c43
            try clear c53
            try clear c55
            try clear c55b0
            try clear c56
            try clear c56b0
            try clear c57
            try clear c57b0
            try clear c57b1
            try clear c58
            try clear c58b0
            try clear c60
            try clear c61
            try clear c61b0
            try clear c62
            try clear c62b0
            try clear c63
            try clear c63b0
            try clear c64
            try clear c64b0
            try clear c64b1
            try clear c64b2
            try clear p64
            try clear c65
            try clear c65b0
            try clear c65b1
            try clear c65b2
            try clear hcz13_0
            try clear hcz13_1
            try clear hcz13_2
            try clear hcz13_3
            try clear hcz15_0
            try clear hcz15_1
            try clear hcz15_2
            try clear hcz15_3
            try clear hcz16_0
            try clear hcz16_1
            try clear hcz16_2
            try clear hcz16_3
            try clear hcz20_0
            try clear hcz20_1
            try clear hcz20_2
            try clear hcz20_3
            try clear hcz22_0
            try clear hcz22_1
            try clear hcz22_2
            try clear hcz22_3
            try clear hcz23_0
            try clear hcz23_1
            try clear hcz23_2
            try clear hcz23_3
            try clear hcz35_0
            try clear hcz35_1
            try clear hcz35_2
            try clear hcz35_3
            try clear hcz37_0
            try clear hcz37_1
            try clear hcz37_2
            try clear hcz37_3
            try clear hcz39_0
            try clear hcz39_1
            try clear hcz39_2
            try clear hcz39_3
            try clear hcz40_0
            try clear hcz40_1
            try clear hcz40_2
            try clear hcz40_3
            try clear hcz44_0
            try clear hcz44_1
            try clear hcz44_2
            try clear hcz44_3
            try clear hcz46_0
            try clear hcz46_1
            try clear hcz46_2
            try clear hcz46_3
            try clear hcz48_0
            try clear hcz48_1
            try clear hcz48_2
            try clear hcz48_3
            try clear hcz49_0
            try clear hcz49_1
            try clear hcz49_2
            try clear hcz49_3
            try clear hcz54_0
            try clear hcz54_1
            try clear hcz54_2
            try clear hcz54_3
            try clear hfz13_0
            try clear hfz13_1
            try clear hfz13_2
            try clear hfz13_3
            try clear hfz15_0
            try clear hfz15_1
            try clear hfz15_2
            try clear hfz15_3
            try clear hfz16_0
            try clear hfz16_1
            try clear hfz16_2
            try clear hfz16_3
            try clear hfz20_0
            try clear hfz20_1
            try clear hfz20_2
            try clear hfz20_3
            try clear hfz22_0
            try clear hfz22_1
            try clear hfz22_2
            try clear hfz22_3
            try clear hfz23_0
            try clear hfz23_1
            try clear hfz23_2
            try clear hfz23_3
            try clear hfz35_0
            try clear hfz35_1
            try clear hfz35_2
            try clear hfz35_3
            try clear hfz37_0
            try clear hfz37_1
            try clear hfz37_2
            try clear hfz37_3
            try clear hfz39_0
            try clear hfz39_1
            try clear hfz39_2
            try clear hfz39_3
            try clear hfz40_0
            try clear hfz40_1
            try clear hfz40_2
            try clear hfz40_3
            try clear hfz44_0
            try clear hfz44_1
            try clear hfz44_2
            try clear hfz44_3
            try clear hfz46_0
            try clear hfz46_1
            try clear hfz46_2
            try clear hfz46_3
            try clear hfz48_0
            try clear hfz48_1
            try clear hfz48_2
            try clear hfz48_3
            try clear hfz49_0
            try clear hfz49_1
            try clear hfz49_2
            try clear hfz49_3
            try clear hfz54_0
            try clear hfz54_1
            try clear hfz54_2
            try clear hfz54_3
            try clear p5
            try clear q5
            obtain ⟨kq, x51_49, rfl, HA, HJ49, BK109, BK110, HB⟩ := hcut
            cases kq with
            | zero => exact absurd HA.out (by simp [lexer_next.j0])
            | succ kj49 =>
              have H := HA.out
              clear HA
              simp only [lexer_next.j0] at H
              by_cases c67 : x51_49 = true
              · subst c67
                have H1 : (some (3, a1, wrap64 (a1 + 2), 0, 0)) = some (r1, r2, r3, r4, r5) := by rw [if_pos rfl] at H; exact H
                clear H
                have H := H1
                clear H1
                simp only [Option.some.injEq, Prod.mk.injEq] at H
                obtain ⟨rfl, rfl, rfl, rfl, rfl⟩ := H
                have hnb68 := NB110_109.out
                have hnc68 := NB109_110.out
                have hcz69_0 : wc.cell? ⟨gb110, 0, none⟩ = some (.int .i64 0) := (blk_cell BK110.out 0).trans rfl
                have hcz69_1 : wc.cell? ⟨gb110, 1, none⟩ = some (.int .i64 a1) := (blk_cell BK110.out 1).trans rfl
                have hcz69_2 : wc.cell? ⟨gb110, 2, none⟩ = some (.int .i64 0) := (blk_cell BK110.out 2).trans rfl
                have hcz69_3 : wc.cell? ⟨gb110, 3, none⟩ = some (.int .i64 0) := (blk_cell BK110.out 3).trans rfl
                have hfz69_0 := blk_frozen BK110.out 0
                have hfz69_1 := blk_frozen BK110.out 1
                have hfz69_2 := blk_frozen BK110.out 2
                have hfz69_3 := blk_frozen BK110.out 3
                have hcz70_0 : wc.cell? ⟨gb109, 0, none⟩ = some (.int .i64 0) := (blk_cell BK109.out 0).trans rfl
                have hcz70_1 : wc.cell? ⟨gb109, 1, none⟩ = some (.int .i64 0) := (blk_cell BK109.out 1).trans rfl
                have hcz70_2 : wc.cell? ⟨gb109, 2, none⟩ = some (.int .i64 0) := (blk_cell BK109.out 2).trans rfl
                have hcz70_3 : wc.cell? ⟨gb109, 3, none⟩ = some (.int .i64 0) := (blk_cell BK109.out 3).trans rfl
                have hfz70_0 := blk_frozen BK109.out 0
                have hfz70_1 := blk_frozen BK109.out 1
                have hfz70_2 := blk_frozen BK109.out 2
                have hfz70_3 := blk_frozen BK109.out 3
                go_wp2
                refine bodyPost_ret (results_ct rfl _ _ gb109 32 #[.int .i64 3, .int .i64 a1, .int .i64 (wrap64 (a1 + 2)), .int .i64 0] (0, 0) _ rfl (by (with_reducible repeat (first | refine blk_drewN ?_ _ | refine blk_drew ?_ | refine blk_alloc ?_ _)); refine blk_put (cs := #[.int .i64 3, .int .i64 a1, .int .i64 (wrap64 (a1 + 2)), .int .i64 0]) ?_ 3 _ rfl; (with_reducible repeat (first | refine blk_drewN ?_ _ | refine blk_drew ?_ | refine blk_alloc ?_ _)); refine blk_put (cs := #[.int .i64 3, .int .i64 a1, .int .i64 0, .int .i64 0]) ?_ 2 _ rfl; (with_reducible repeat (first | refine blk_drewN ?_ _ | refine blk_drew ?_ | refine blk_alloc ?_ _)); refine blk_put (cs := #[.int .i64 3, .int .i64 0, .int .i64 0, .int .i64 0]) ?_ 1 _ rfl; (with_reducible repeat (first | refine blk_drewN ?_ _ | refine blk_drew ?_ | refine blk_alloc ?_ _)); refine blk_put (cs := #[.int .i64 0, .int .i64 0, .int .i64 0, .int .i64 0]) ?_ 0 _ rfl; (with_reducible repeat (first | refine blk_drewN ?_ _ | refine blk_drew ?_ | refine blk_alloc ?_ _)); refine blk_far ?_ NB109_110.out _; (with_reducible repeat (first | refine blk_drewN ?_ _ | refine blk_drew ?_ | refine blk_alloc ?_ _)); refine blk_far ?_ NB109_110.out _; (with_reducible repeat (first | refine blk_drewN ?_ _ | refine blk_drew ?_ | refine blk_alloc ?_ _)); exact BK109.out) Try.underlying32 rfl (by kernel_rfl)) rfl ?_
                exact ⟨by first | rfl | (simp [errW_none, errW_some] <;> rfl) | (simp [*, errW_none, errW_some] <;> rfl), by repeat (first | (with_reducible first | exact HB.out | apply below_alloc | apply pw_below_drewN | apply below_drew1 | refine below_set ?_ GE109.out | refine below_set ?_ GE110.out) | exact HB.out)⟩
              · replace c67 := Bool.eq_false_iff.mpr c67
                subst c67
                have H1 : ((strings_IndexByte.f (⟨#[59, 58, 44, 40, 41, 46, 63, 60, 62, 43, 45, 42, 47, 37, 33]⟩ : ByteArray) (bt a0 a1)).bind fun t119 => (if t119 ≥ 0 then (some (3, a1, wrap64 (a1 + 1), 0, 0)) else (some (0, a1, 0, 0, 4)))) = some (r1, r2, r3, r4, r5) := by rw [if_neg (show ¬ (false = true) by decide)] at H; exact H
                clear H
                have H := H1
                clear H1
                replace H := Option.bind_eq_some_iff.mp H
                obtain ⟨t119, A710, H⟩ := H
                replace H : (if t119 ≥ 0 then (some (3, a1, wrap64 (a1 + 1), 0, 0)) else (some (0, a1, 0, 0, 4))) = some (r1, r2, r3, r4, r5) := H
                have A71 := Aside0.mk A710
                clear A710
                by_cases c72 : t119 ≥ 0
                · rw [if_pos c72] at H
                  have c72b0 : decide (0 ≤ t119) = true := decide_eq_true c72
                  clear c72
                  simp only [Option.some.injEq, Prod.mk.injEq] at H
                  obtain ⟨rfl, rfl, rfl, rfl, rfl⟩ := H
                  go_wp2_with (first | ((with_reducible refine gate_callee (f := 36) rfl ?_); refine goesL_ (some 82) rfl rfl Try.func36 (by kernel_rfl) rfl #[.string (⟨#[59, 58, 44, 40, 41, 46, 63, 60, 62, 43, 45, 42, 47, 37, 33]⟩ : ByteArray), .int .u8 (bt a0 a1)] rfl (by (try simp only [List.map_toArray, List.map_cons, List.map_nil]); first | done | rfl | (simp only [List.length_drop, List.length_take]; rfl)) ?_; (with_reducible refine (strings_IndexByte.calls (⟨#[59, 58, 44, 40, 41, 46, 63, 60, 62, 43, 45, 42, 47, 37, 33]⟩ : ByteArray) (bt a0 a1) t119 _ A71.out).mono ?_); rintro e w' ⟨rfl, ⟨nd, rfl⟩⟩; refine ⟨_, rfl, ?_⟩; (try (rw [drewN_self wc]; generalize hq_ : World.drewN wc _ = wc; have n0_ : Aside0 (wc.heap[gb109]? = some (.cells #[.int .i64 0, .int .i64 0, .int .i64 0, .int .i64 0] 32 (0, 0))) := ⟨by rw [← hq_]; exact (by (with_reducible repeat (first | refine blk_drewN ?_ _ | refine blk_drew ?_ | refine blk_alloc ?_ _)); exact BK109.out)⟩; have n1_ : Aside0 (wc.heap[gb110]? = some (.cells #[.int .i64 0, .int .i64 a1, .int .i64 0, .int .i64 0] 32 (0, 0))) := ⟨by rw [← hq_]; exact (by (with_reducible repeat (first | refine blk_drewN ?_ _ | refine blk_drew ?_ | refine blk_alloc ?_ _)); exact BK110.out)⟩; have n2_ : Aside0 (Below w.heap.size w wc) := ⟨by rw [← hq_]; exact (by repeat (first | (with_reducible first | exact HB.out | apply below_alloc | apply pw_below_drewN | apply below_drew1 | refine below_set ?_ GE109.out | refine below_set ?_ GE110.out) | exact HB.out))⟩; clear BK109 BK110 HB hq_; have BK109 := n0_; have BK110 := n1_; have HB := n2_; clear n0_ n1_ n2_)); have hnb73 := NB110_109.out; have hnc73 := NB109_110.out; have hcz74_0 : wc.cell? ⟨gb110, 0, none⟩ = some (.int .i64 0) := (blk_cell BK110.out 0).trans rfl; have hcz74_1 : wc.cell? ⟨gb110, 1, none⟩ = some (.int .i64 a1) := (blk_cell BK110.out 1).trans rfl; have hcz74_2 : wc.cell? ⟨gb110, 2, none⟩ = some (.int .i64 0) := (blk_cell BK110.out 2).trans rfl; have hcz74_3 : wc.cell? ⟨gb110, 3, none⟩ = some (.int .i64 0) := (blk_cell BK110.out 3).trans rfl; have hfz74_0 := blk_frozen BK110.out 0; have hfz74_1 := blk_frozen BK110.out 1; have hfz74_2 := blk_frozen BK110.out 2; have hfz74_3 := blk_frozen BK110.out 3; have hcz75_0 : wc.cell? ⟨gb109, 0, none⟩ = some (.int .i64 0) := (blk_cell BK109.out 0).trans rfl; have hcz75_1 : wc.cell? ⟨gb109, 1, none⟩ = some (.int .i64 0) := (blk_cell BK109.out 1).trans rfl; have hcz75_2 : wc.cell? ⟨gb109, 2, none⟩ = some (.int .i64 0) := (blk_cell BK109.out 2).trans rfl; have hcz75_3 : wc.cell? ⟨gb109, 3, none⟩ = some (.int .i64 0) := (blk_cell BK109.out 3).trans rfl; have hfz75_0 := blk_frozen BK109.out 0; have hfz75_1 := blk_frozen BK109.out 1; have hfz75_2 := blk_frozen BK109.out 2; have hfz75_3 := blk_frozen BK109.out 3))
                  refine bodyPost_ret (results_ct rfl _ _ gb109 32 #[.int .i64 3, .int .i64 a1, .int .i64 (wrap64 (a1 + 1)), .int .i64 0] (0, 0) _ rfl (by (with_reducible repeat (first | refine blk_drewN ?_ _ | refine blk_drew ?_ | refine blk_alloc ?_ _)); refine blk_put (cs := #[.int .i64 3, .int .i64 a1, .int .i64 (wrap64 (a1 + 1)), .int .i64 0]) ?_ 3 _ rfl; (with_reducible repeat (first | refine blk_drewN ?_ _ | refine blk_drew ?_ | refine blk_alloc ?_ _)); refine blk_put (cs := #[.int .i64 3, .int .i64 a1, .int .i64 0, .int .i64 0]) ?_ 2 _ rfl; (with_reducible repeat (first | refine blk_drewN ?_ _ | refine blk_drew ?_ | refine blk_alloc ?_ _)); refine blk_put (cs := #[.int .i64 3, .int .i64 0, .int .i64 0, .int .i64 0]) ?_ 1 _ rfl; (with_reducible repeat (first | refine blk_drewN ?_ _ | refine blk_drew ?_ | refine blk_alloc ?_ _)); refine blk_put (cs := #[.int .i64 0, .int .i64 0, .int .i64 0, .int .i64 0]) ?_ 0 _ rfl; (with_reducible repeat (first | refine blk_drewN ?_ _ | refine blk_drew ?_ | refine blk_alloc ?_ _)); refine blk_far ?_ NB109_110.out _; (with_reducible repeat (first | refine blk_drewN ?_ _ | refine blk_drew ?_ | refine blk_alloc ?_ _)); refine blk_far ?_ NB109_110.out _; (with_reducible repeat (first | refine blk_drewN ?_ _ | refine blk_drew ?_ | refine blk_alloc ?_ _)); exact BK109.out) Try.underlying32 rfl (by kernel_rfl)) rfl ?_
                  exact ⟨by first | rfl | (simp [errW_none, errW_some] <;> rfl) | (simp [*, errW_none, errW_some] <;> rfl), by repeat (first | (with_reducible first | exact HB.out | apply below_alloc | apply pw_below_drewN | apply below_drew1 | refine below_set ?_ GE109.out | refine below_set ?_ GE110.out) | exact HB.out)⟩
                · rw [if_neg c72] at H
                  have c72b0 : decide (0 ≤ t119) = false := decide_eq_false c72
                  clear c72
                  simp only [Option.some.injEq, Prod.mk.injEq] at H
                  obtain ⟨rfl, rfl, rfl, rfl, rfl⟩ := H
                  go_wp2_with (first | ((with_reducible refine gate_callee (f := 36) rfl ?_); refine goesL_ (some 82) rfl rfl Try.func36 (by kernel_rfl) rfl #[.string (⟨#[59, 58, 44, 40, 41, 46, 63, 60, 62, 43, 45, 42, 47, 37, 33]⟩ : ByteArray), .int .u8 (bt a0 a1)] rfl (by (try simp only [List.map_toArray, List.map_cons, List.map_nil]); first | done | rfl | (simp only [List.length_drop, List.length_take]; rfl)) ?_; (with_reducible refine (strings_IndexByte.calls (⟨#[59, 58, 44, 40, 41, 46, 63, 60, 62, 43, 45, 42, 47, 37, 33]⟩ : ByteArray) (bt a0 a1) t119 _ A71.out).mono ?_); rintro e w' ⟨rfl, ⟨nd, rfl⟩⟩; refine ⟨_, rfl, ?_⟩; (try (rw [drewN_self wc]; generalize hq_ : World.drewN wc _ = wc; have n0_ : Aside0 (wc.heap[gb109]? = some (.cells #[.int .i64 0, .int .i64 0, .int .i64 0, .int .i64 0] 32 (0, 0))) := ⟨by rw [← hq_]; exact (by (with_reducible repeat (first | refine blk_drewN ?_ _ | refine blk_drew ?_ | refine blk_alloc ?_ _)); exact BK109.out)⟩; have n1_ : Aside0 (wc.heap[gb110]? = some (.cells #[.int .i64 0, .int .i64 a1, .int .i64 0, .int .i64 0] 32 (0, 0))) := ⟨by rw [← hq_]; exact (by (with_reducible repeat (first | refine blk_drewN ?_ _ | refine blk_drew ?_ | refine blk_alloc ?_ _)); exact BK110.out)⟩; have n2_ : Aside0 (Below w.heap.size w wc) := ⟨by rw [← hq_]; exact (by repeat (first | (with_reducible first | exact HB.out | apply below_alloc | apply pw_below_drewN | apply below_drew1 | refine below_set ?_ GE109.out | refine below_set ?_ GE110.out) | exact HB.out))⟩; clear BK109 BK110 HB hq_; have BK109 := n0_; have BK110 := n1_; have HB := n2_; clear n0_ n1_ n2_)); have hnb76 := NB110_109.out; have hnc76 := NB109_110.out; have hcz77_0 : wc.cell? ⟨gb110, 0, none⟩ = some (.int .i64 0) := (blk_cell BK110.out 0).trans rfl; have hcz77_1 : wc.cell? ⟨gb110, 1, none⟩ = some (.int .i64 a1) := (blk_cell BK110.out 1).trans rfl; have hcz77_2 : wc.cell? ⟨gb110, 2, none⟩ = some (.int .i64 0) := (blk_cell BK110.out 2).trans rfl; have hcz77_3 : wc.cell? ⟨gb110, 3, none⟩ = some (.int .i64 0) := (blk_cell BK110.out 3).trans rfl; have hfz77_0 := blk_frozen BK110.out 0; have hfz77_1 := blk_frozen BK110.out 1; have hfz77_2 := blk_frozen BK110.out 2; have hfz77_3 := blk_frozen BK110.out 3; have hcz78_0 : wc.cell? ⟨gb109, 0, none⟩ = some (.int .i64 0) := (blk_cell BK109.out 0).trans rfl; have hcz78_1 : wc.cell? ⟨gb109, 1, none⟩ = some (.int .i64 0) := (blk_cell BK109.out 1).trans rfl; have hcz78_2 : wc.cell? ⟨gb109, 2, none⟩ = some (.int .i64 0) := (blk_cell BK109.out 2).trans rfl; have hcz78_3 : wc.cell? ⟨gb109, 3, none⟩ = some (.int .i64 0) := (blk_cell BK109.out 3).trans rfl; have hfz78_0 := blk_frozen BK109.out 0; have hfz78_1 := blk_frozen BK109.out 1; have hfz78_2 := blk_frozen BK109.out 2; have hfz78_3 := blk_frozen BK109.out 3))
                  refine bodyPost_ret (results_ct rfl _ _ gb109 32 #[.int .i64 0, .int .i64 a1, .int .i64 0, .int .i64 0] (0, 0) _ rfl (by (with_reducible repeat (first | refine blk_drewN ?_ _ | refine blk_drew ?_ | refine blk_alloc ?_ _)); refine blk_put (cs := #[.int .i64 0, .int .i64 a1, .int .i64 0, .int .i64 0]) ?_ 3 _ rfl; (with_reducible repeat (first | refine blk_drewN ?_ _ | refine blk_drew ?_ | refine blk_alloc ?_ _)); refine blk_put (cs := #[.int .i64 0, .int .i64 a1, .int .i64 0, .int .i64 0]) ?_ 2 _ rfl; (with_reducible repeat (first | refine blk_drewN ?_ _ | refine blk_drew ?_ | refine blk_alloc ?_ _)); refine blk_put (cs := #[.int .i64 0, .int .i64 0, .int .i64 0, .int .i64 0]) ?_ 1 _ rfl; (with_reducible repeat (first | refine blk_drewN ?_ _ | refine blk_drew ?_ | refine blk_alloc ?_ _)); refine blk_put (cs := #[.int .i64 0, .int .i64 0, .int .i64 0, .int .i64 0]) ?_ 0 _ rfl; (with_reducible repeat (first | refine blk_drewN ?_ _ | refine blk_drew ?_ | refine blk_alloc ?_ _)); exact BK109.out) Try.underlying32 rfl (by kernel_rfl)) rfl ?_
                  exact ⟨by first | rfl | (simp [errW_none, errW_some] <;> rfl) | (simp [*, errW_none, errW_some] <;> rfl), by repeat (first | (with_reducible first | exact HB.out | apply below_alloc | apply pw_below_drewN | apply below_drew1 | refine below_set ?_ GE109.out | refine below_set ?_ GE110.out) | exact HB.out)⟩
    · rw [if_neg c4] at H
      exact absurd H (by simp)
  · rw [if_neg c3] at H
    exact absurd H (by simp)

end Go.Proofs.Ytanickojbgceaaa.P
