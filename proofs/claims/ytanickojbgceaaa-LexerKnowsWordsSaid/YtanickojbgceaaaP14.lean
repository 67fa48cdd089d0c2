-- made by a program of mine (wip/tools/pp.py over the kit's print)
import Derived.Test.YtanickojbgceaaaP0
import Derived.Test.YtanickojbgceaaaP2
import Derived.Test.YtanickojbgceaaaP4
import Derived.Test.YtanickojbgceaaaP8
namespace Go.Proofs.Ytanickojbgceaaa.P
open Go.RowKit Go.Proofs.YtanickojbgceaaaW.PrintWords Go.Proofs.YtanickojbgceaaaW.PrintLast Go.Proofs.YtanickojbgceaaaW.PrintMore
attribute [local go_sem] max2_int min2_int max_two min_two max_three min_three max_four min_four   -- for this text's walks alone
set_option linter.unusedVariables false
set_option linter.unusedSimpArgs false

/-! ### selfstablaw04_LexerStopsAtTheError: function 8 -/
mutual
def selfstablaw04_LexerStopsAtTheError.j0 : Nat → ByteArray → ByteArray → Bool → Option (Bool)
  | 0, _, _, _ => none
  | k + 1, x0, x1, x24 => if x24 = true then ((selfstablaw04_awake.f k).bind fun t275 => (some t275)) else ((lexer_Scan.f k x0).bind fun bt276 => (if bt276.2.2 = 0 then (if x0.size + 2 ≤ 9223372036854775807 then (if (x0 ++ (⟨#[32, 10]⟩ : ByteArray)).size + x1.size ≤ 9223372036854775807 then ((lexer_Scan.f k ((x0 ++ (⟨#[32, 10]⟩ : ByteArray)) ++ x1)).bind fun bt281 => (if bt281.2.2 = 0 then ((selfstablaw04_awake.f k).bind fun t287 => (if t287 = true then (if (bt281.1.length : Int) ≥ (bt276.1.length : Int) then (if 0 ≤ (bt276.1.length : Int) then (if (bt276.1.length : Int) ≤ (bt281.1.length : Int) then ((selfstabref04_Same.f k (bt281.1.take ((bt276.1.length : Int) : Int).toNat) bt276.1).bind fun t292 => (some t292)) else (none)) else (none)) else (some false)) else (some false))) else ((selfstablaw04_awake.f k).bind fun t286 => (if t286 = true then (some ((bt281.1.length : Int) == 0)) else (some false))))) else (none)) else (none)) else (if (bt276.1.length : Int) = 0 then (if bt276.2.1 < 0 then (selfstablaw04_LexerStopsAtTheError.j1 k x0 x1 bt276.2.1 bt276.2.2 true) else (selfstablaw04_LexerStopsAtTheError.j1 k x0 x1 bt276.2.1 bt276.2.2 (decide (bt276.2.1 ≥ (x0.size : Int))))) else (selfstablaw04_LexerStopsAtTheError.j1 k x0 x1 bt276.2.1 bt276.2.2 true))))
def selfstablaw04_LexerStopsAtTheError.j1 : Nat → ByteArray → ByteArray → Int → Int → Bool → Option (Bool)
  | 0, _, _, _, _, _ => none
  | k + 1, x0, x1, x6, x7, x79 => if x79 = true then (some false) else (if 0 ≤ x6 then (if x6 ≤ (x0.size : Int) then ((lexer_Scan.f k (x0.extract 0 (x6 : Int).toNat)).bind fun bt293 => (if x0.size + 1 ≤ 9223372036854775807 then (if (x0 ++ (⟨#[32]⟩ : ByteArray)).size + x1.size ≤ 9223372036854775807 then ((lexer_Scan.f k ((x0 ++ (⟨#[32]⟩ : ByteArray)) ++ x1)).bind fun bt298 => ((selfstablaw04_awake.f k).bind fun t303 => (if t303 = true then (if bt293.2.2 = 0 then (if bt298.2.2 = x7 then (some (bt298.2.1 == x6)) else (some false)) else (some false)) else (some false)))) else (none)) else (none))) else (none)) else (none))
end
def selfstablaw04_LexerStopsAtTheError.f (k : Nat) (a0 : ByteArray) (a1 : ByteArray) : Option (Bool) := if (a0.size : Int) > 2000 then (selfstablaw04_LexerStopsAtTheError.j0 k a0 a1 true) else (selfstablaw04_LexerStopsAtTheError.j0 k a0 a1 (decide ((a1.size : Int) > 200)))
theorem selfstablaw04_LexerStopsAtTheError.mono_l : ∀ k, (∀ y0 y1 y2, LeO (selfstablaw04_LexerStopsAtTheError.j0 k y0 y1 y2) (selfstablaw04_LexerStopsAtTheError.j0 (k + 1) y0 y1 y2)) ∧ (∀ y0 y1 y2 y3 y4, LeO (selfstablaw04_LexerStopsAtTheError.j1 k y0 y1 y2 y3 y4) (selfstablaw04_LexerStopsAtTheError.j1 (k + 1) y0 y1 y2 y3 y4))
  | 0 => ⟨fun _ _ _ r h => by simp [selfstablaw04_LexerStopsAtTheError.j0] at h, fun _ _ _ _ _ r h => by simp [selfstablaw04_LexerStopsAtTheError.j1] at h⟩
  | k + 1 => by
    obtain ⟨ih0, ih1⟩ := selfstablaw04_LexerStopsAtTheError.mono_l k
    refine ⟨?_, ?_⟩
    · intro y0 y1 y2
      unfold selfstablaw04_LexerStopsAtTheError.j0
      repeat' first
      | (with_reducible exact ih0 _ _ _)
      | (with_reducible exact ih1 _ _ _ _ _)
      | (with_reducible exact lexer_Scan.mono _ _)
      | (with_reducible exact selfstablaw04_awake.mono _)
      | (with_reducible exact selfstabref04_Same.mono _ _ _)
      | (with_reducible exact LeO.refl _)
      | (with_reducible exact LeO.none _)
      | (with_reducible refine LeO.ite ?_ ?_)
      | (with_reducible refine LeO.bind ?_ (fun _ => ?_))
      | exact ih0 _ _ _
      | exact ih1 _ _ _ _ _
      | exact lexer_Scan.mono _ _
      | exact selfstablaw04_awake.mono _
      | exact selfstabref04_Same.mono _ _ _
      | exact LeO.none _
      | refine LeO.ite ?_ ?_
      | refine LeO.bind ?_ (fun _ => ?_)
    · intro y0 y1 y2 y3 y4
      unfold selfstablaw04_LexerStopsAtTheError.j1
      repeat' first
      | (with_reducible exact ih0 _ _ _)
      | (with_reducible exact ih1 _ _ _ _ _)
      | (with_reducible exact lexer_Scan.mono _ _)
      | (with_reducible exact selfstablaw04_awake.mono _)
      | (with_reducible exact selfstabref04_Same.mono _ _ _)
      | (with_reducible exact LeO.refl _)
      | (with_reducible exact LeO.none _)
      | (with_reducible refine LeO.ite ?_ ?_)
      | (with_reducible refine LeO.bind ?_ (fun _ => ?_))
      | exact ih0 _ _ _
      | exact ih1 _ _ _ _ _
      | exact lexer_Scan.mono _ _
      | exact selfstablaw04_awake.mono _
      | exact selfstabref04_Same.mono _ _ _
      | exact LeO.none _
      | refine LeO.ite ?_ ?_
      | refine LeO.bind ?_ (fun _ => ?_)
theorem selfstablaw04_LexerStopsAtTheError.mono : ∀ a0 a1 k, LeO (selfstablaw04_LexerStopsAtTheError.f k a0 a1) (selfstablaw04_LexerStopsAtTheError.f (k + 1) a0 a1) := by
  intro a0 a1 k
  obtain ⟨ih0, ih1⟩ := selfstablaw04_LexerStopsAtTheError.mono_l k
  unfold selfstablaw04_LexerStopsAtTheError.f
  repeat' first
      | (with_reducible exact ih0 _ _ _)
      | (with_reducible exact ih1 _ _ _ _ _)
      | (with_reducible exact lexer_Scan.mono _ _)
      | (with_reducible exact selfstablaw04_awake.mono _)
      | (with_reducible exact selfstabref04_Same.mono _ _ _)
      | (with_reducible exact LeO.refl _)
      | (with_reducible exact LeO.none _)
      | (with_reducible refine LeO.ite ?_ ?_)
      | (with_reducible refine LeO.bind ?_ (fun _ => ?_))
      | exact ih0 _ _ _
      | exact ih1 _ _ _ _ _
      | exact lexer_Scan.mono _ _
      | exact selfstablaw04_awake.mono _
      | exact selfstabref04_Same.mono _ _ _
      | exact LeO.none _
      | refine LeO.ite ?_ ?_
      | refine LeO.bind ?_ (fun _ => ?_)
set_option maxHeartbeats 6000000 in
set_option maxRecDepth 100000 in
theorem selfstablaw04_LexerStopsAtTheError.calls (k : Nat) (a0 : ByteArray) (a1 : ByteArray) (r : Bool) (w : World) (hshp : Shp w) (h : selfstablaw04_LexerStopsAtTheError.f k a0 a1 = some r) :
    Calls Try.prog 8 #[.string a0, .string a1] w fun e w' => e = .returned (.bool r) ∧ Below w.heap.size w w' := by
  have HSHP := Aside0.mk hshp
  clear hshp
  have HB := Aside0.mk (Below.refl w.heap.size w)
  have H : (if (a0.size : Int) > 2000 then (selfstablaw04_LexerStopsAtTheError.j0 k a0 a1 true) else (selfstablaw04_LexerStopsAtTheError.j0 k a0 a1 (decide ((a1.size : Int) > 200)))) = some r := h
  clear h
  have HC3 := Aside0.mk H
  clear H
  go_enter Try.func8, Try.ntmps8
  go_upto_region 1 with (fail)
  go_cut [24] (fun v24 wc => ∃ (kq : Nat) (x24_2 : Bool), v24 = .bool x24_2 ∧ Aside0 (selfstablaw04_LexerStopsAtTheError.j0 kq a0 a1 x24_2 = some r) ∧ Aside0 (kq ≤ k) ∧ Aside0 (Below w.heap.size w wc))
  case first =>
    have H := HC3.out
    clear HC3
    by_cases c4 : (a0.size : Int) > 2000
    · rw [if_pos c4] at H
      have c4b0 : decide (2000 < (a0.size : Int)) = true := decide_eq_true c4
      have c4b1 : decide (2000 < a0.size) = true := decide_eq_true (by omega)
      clear c4
      (first | rw [c4b0] | (simp only [i64_w, i32_w]; rw [c4b0]) | skip)
      have H' := Aside0.mk H
      clear H
      go_wp2
      go_meet
      case rel => exact ⟨_, (true), (by first | rfl | (simp; done) | (simp [*]; done)), H', ⟨by first | omega | exact Nat.le_refl _⟩, ⟨by repeat (first | (with_reducible first | exact HB.out | apply below_alloc | apply pw_below_drewN | apply below_drew1) | exact HB.out)⟩⟩
    · rw [if_neg c4] at H
      have c4b0 : decide (2000 < (a0.size : Int)) = false := decide_eq_false c4
      have c4b1 : decide (2000 < a0.size) = false := decide_eq_false (by omega)
      clear c4
      (first | rw [c4b0] | (simp only [i64_w, i32_w]; rw [c4b0]) | skip)
      have H' := Aside0.mk H
      clear H
      go_wp2
      go_meet
      case rel => exact ⟨_, (decide ((a1.size : Int) > 200)), (by first | rfl | (simp; done) | (simp [*]; done)), H', ⟨by first | omega | exact Nat.le_refl _⟩, ⟨by repeat (first | (with_reducible first | exact HB.out | apply below_alloc | apply pw_below_drewN | apply below_drew1) | exact HB.out)⟩⟩
  case rest =>
    clear HC3
    try clear p2
    try clear c4
    try clear c4b0
    try clear c4b1
    obtain ⟨kq, x24_2, rfl, HA, HJ2, HB⟩ := hcut
    cases kq with
    | zero => exact absurd HA.out (by simp [selfstablaw04_LexerStopsAtTheError.j0])
    | succ kj2 =>
      have H := HA.out
      clear HA
      simp only [selfstablaw04_LexerStopsAtTheError.j0] at H
      by_cases c5 : x24_2 = true
      · subst c5
        have H1 : ((selfstablaw04_awake.f kj2).bind fun t275 => (some t275)) = some r := by rw [if_pos rfl] at H; exact H
        clear H
        have H := H1
        clear H1
        replace H := Option.bind_eq_some_iff.mp H
        obtain ⟨t275, A60, H⟩ := H
        replace H : (some t275) = some r := H
        have A6 := Aside0.mk A60
        clear A60
        obtain rfl := Option.some.inj H
        go_wp2_with (first | ((with_reducible refine gate_callee (f := 10) rfl ?_); refine goesL_ (some 25) rfl rfl Try.func10 (by kernel_rfl) rfl #[] rfl (by (try simp only [List.map_toArray, List.map_cons, List.map_nil]); first | done | rfl | (simp only [List.length_drop, List.length_take]; rfl)) ?_; (with_reducible refine (selfstablaw04_awake.calls kj2  t275 _ ?side1 A6.out).mono ?_); (case side1 => first | ((with_reducible repeat (first | exact HSHP.out | refine Shp.alloc ?_ _ | refine Shp.drewN ?_ _ | refine Shp.drew ?_)); done) | (with_reducible refine Shp.below HSHP.out ?_; repeat (first | (with_reducible first | exact HB.out | apply below_alloc | apply pw_below_drewN | apply below_drew1) | exact HB.out))); rintro e w7 ⟨rfl, hb⟩; refine ⟨_, rfl, ?_⟩; have n0_ := Aside0.mk (below_step (by repeat (first | (with_reducible first | exact HB.out | apply below_alloc | apply pw_below_drewN | apply below_drew1) | exact HB.out)) hb); clear HB; have HB := n0_; clear n0_; (try clear hb); (try clear hb2); (try clear hk); (try clear hi)))
        go_ret
        exact ⟨by first | rfl | (simp [errW_none, errW_some] <;> rfl) | (simp [*, errW_none, errW_some] <;> rfl), by repeat (first | (with_reducible first | exact HB.out | apply below_alloc | apply pw_below_drewN | apply below_drew1) | exact HB.out)⟩
      · replace c5 := Bool.eq_false_iff.mpr c5
        subst c5
        have H1 : ((lexer_Scan.f kj2 a0).bind fun bt276 => (if bt276.2.2 = 0 then (if a0.size + 2 ≤ 9223372036854775807 then (if (a0 ++ (⟨#[32, 10]⟩ : ByteArray)).size + a1.size ≤ 9223372036854775807 then ((lexer_Scan.f kj2 ((a0 ++ (⟨#[32, 10]⟩ : ByteArray)) ++ a1)).bind fun bt281 => (if bt281.2.2 = 0 then ((selfstablaw04_awake.f kj2).bind fun t287 => (if t287 = true then (if (bt281.1.length : Int) ≥ (bt276.1.length : Int) then (if 0 ≤ (bt276.1.length : Int) then (if (bt276.1.length : Int) ≤ (bt281.1.length : Int) then ((selfstabref04_Same.f kj2 (bt281.1.take ((bt276.1.length : Int) : Int).toNat) bt276.1).bind fun t292 => (some t292)) else (none)) else (none)) else (some false)) else (some false))) else ((selfstablaw04_awake.f kj2).bind fun t286 => (if t286 = true then (some ((bt281.1.length : Int) == 0)) else (some false))))) else (none)) else (none)) else (if (bt276.1.length : Int) = 0 then (if bt276.2.1 < 0 then (selfstablaw04_LexerStopsAtTheError.j1 kj2 a0 a1 bt276.2.1 bt276.2.2 true) else (selfstablaw04_LexerStopsAtTheError.j1 kj2 a0 a1 bt276.2.1 bt276.2.2 (decide (bt276.2.1 ≥ (a0.size : Int))))) else (selfstablaw04_LexerStopsAtTheError.j1 kj2 a0 a1 bt276.2.1 bt276.2.2 true)))) = some r := by rw [if_neg (show ¬ (false = true) by decide)] at H; exact H
        clear H
        have H := H1
        clear H1
        replace H := Option.bind_eq_some_iff.mp H
        obtain ⟨⟨t276, t277, t278⟩, A80, H⟩ := H
        replace H : (if t278 = 0 then (if a0.size + 2 ≤ 9223372036854775807 then (if (a0 ++ (⟨#[32, 10]⟩ : ByteArray)).size + a1.size ≤ 9223372036854775807 then ((lexer_Scan.f kj2 ((a0 ++ (⟨#[32, 10]⟩ : ByteArray)) ++ a1)).bind fun bt281 => (if bt281.2.2 = 0 then ((selfstablaw04_awake.f kj2).bind fun t287 => (if t287 = true then (if (bt281.1.length : Int) ≥ (t276.length : Int) then (if 0 ≤ (t276.length : Int) then (if (t276.length : Int) ≤ (bt281.1.length : Int) then ((selfstabref04_Same.f kj2 (bt281.1.take ((t276.length : Int) : Int).toNat) t276).bind fun t292 => (some t292)) else (none)) else (none)) else (some false)) else (some false))) else ((selfstablaw04_awake.f kj2).bind fun t286 => (if t286 = true then (some ((bt281.1.length : Int) == 0)) else (some false))))) else (none)) else (none)) else (if (t276.length : Int) = 0 then (if t277 < 0 then (selfstablaw04_LexerStopsAtTheError.j1 kj2 a0 a1 t277 t278 true) else (selfstablaw04_LexerStopsAtTheError.j1 kj2 a0 a1 t277 t278 (decide (t277 ≥ (a0.size : Int))))) else (selfstablaw04_LexerStopsAtTheError.j1 kj2 a0 a1 t277 t278 true))) = some r := H
        have A8 := Aside0.mk A80
        clear A80
        by_cases c9 : t278 = 0
        · rw [if_pos c9] at H
          have c9b0 : (t278 == 0) = true := beq_iff_eq.mpr c9
          have c9b1 : (t278 != 0) = false := bne_eq_false_iff_eq.mpr c9
          clear c9
          by_cases c10 : a0.size + 2 ≤ 9223372036854775807
          · rw [if_pos c10] at H
            have c10b0 := eq_true c10
            have c10b1 : decide (a0.size + 2 ≤ 9223372036854775807) = true := decide_eq_true c10
            try have c10b2 : (9223372036854775807 < a0.size + 2) = False := eq_false (Nat.not_lt.2 c10)
            by_cases c11 : (a0 ++ (⟨#[32, 10]⟩ : ByteArray)).size + a1.size ≤ 9223372036854775807
            · rw [if_pos c11] at H
              have c11b0 := eq_true c11
              have c11b1 : decide ((a0 ++ (⟨#[32, 10]⟩ : ByteArray)).size + a1.size ≤ 9223372036854775807) = true := decide_eq_true c11
              try have c11b2 : (9223372036854775807 < (a0 ++ (⟨#[32, 10]⟩ : ByteArray)).size + a1.size) = False := eq_false (Nat.not_lt.2 c11)
              replace H := Option.bind_eq_some_iff.mp H
              obtain ⟨⟨t281, t282, t283⟩, A120, H⟩ := H
              replace H : (if t283 = 0 then ((selfstablaw04_awake.f kj2).bind fun t287 => (if t287 = true then (if (t281.length : Int) ≥ (t276.length : Int) then (if 0 ≤ (t276.length : Int) then (if (t276.length : Int) ≤ (t281.length : Int) then ((selfstabref04_Same.f kj2 (t281.take ((t276.length : Int) : Int).toNat) t276).bind fun t292 => (some t292)) else (none)) else (none)) else (some false)) else (some false))) else ((selfstablaw04_awake.f kj2).bind fun t286 => (if t286 = true then (some ((t281.length : Int) == 0)) else (some false)))) = some r := H
              have A12 := Aside0.mk A120
              clear A120
              by_cases c13 : t283 = 0
              · rw [if_pos c13] at H
                have c13b0 : (t283 == 0) = true := beq_iff_eq.mpr c13
                have c13b1 : (t283 != 0) = false := bne_eq_false_iff_eq.mpr c13
                clear c13
                replace H := Option.bind_eq_some_iff.mp H
                obtain ⟨t287, A140, H⟩ := H
                replace H : (if t287 = true then (if (t281.length : Int) ≥ (t276.length : Int) then (if 0 ≤ (t276.length : Int) then (if (t276.length : Int) ≤ (t281.length : Int) then ((selfstabref04_Same.f kj2 (t281.take ((t276.length : Int) : Int).toNat) t276).bind fun t292 => (some t292)) else (none)) else (none)) else (some false)) else (some false)) = some r := H
                have A14 := Aside0.mk A140
                clear A140
                by_cases c15 : t287 = true
                · subst c15
                  have H1 : (if (t281.length : Int) ≥ (t276.length : Int) then (if 0 ≤ (t276.length : Int) then (if (t276.length : Int) ≤ (t281.length : Int) then ((selfstabref04_Same.f kj2 (t281.take ((t276.length : Int) : Int).toNat) t276).bind fun t292 => (some t292)) else (none)) else (none)) else (some false)) = some r := by rw [if_pos rfl] at H; exact H
                  clear H
                  have H := H1
                  clear H1
                  by_cases c16 : (t281.length : Int) ≥ (t276.length : Int)
                  · rw [if_pos c16] at H
                    have c16b0 : decide ((t276.length : Int) ≤ (t281.length : Int)) = true := decide_eq_true c16
                    have c16b1 : decide (t276.length ≤ t281.length) = true := decide_eq_true (Int.ofNat_le.mp c16)
                    clear c16
                    by_cases c17 : 0 ≤ (t276.length : Int)
                    · rw [if_pos c17] at H
                      have c17b0 := eq_true c17
                      have c17b1 : decide (0 ≤ (t276.length : Int)) = true := decide_eq_true c17
                      clear c17
                      by_cases c18 : (t276.length : Int) ≤ (t281.length : Int)
                      · rw [if_pos c18] at H
                        have c18b0 := eq_true c18
                        have c18b1 : decide ((t276.length : Int) ≤ (t281.length : Int)) = true := decide_eq_true c18
                        clear c18
                        obtain ⟨y288, hy288⟩ : ∃ y_ : List (S32), y_ = (t281.take ((t276.length : Int) : Int).toNat) := ⟨_, rfl⟩
                        replace H : ((selfstabref04_Same.f kj2 y288 t276).bind fun t292 => (some t292)) = some r := by first | (rw [hy288]; with_reducible exact H) | (have H2_ := (Option.bind_some _ _).symm.trans H; rw [hy288]; with_reducible exact H2_) | (have H2_ := (Option.bind_some _ _).symm.trans H; with_reducible exact H2_) | with_reducible exact H | (rw [hy288]; exact H) | exact H
                        have Ny288 := Aside0.mk hy288
                        clear hy288
                        replace H := Option.bind_eq_some_iff.mp H
                        obtain ⟨t292, A190, H⟩ := H
                        replace H : (some t292) = some r := H
                        have A19 := Aside0.mk A190
                        clear A190
                        obtain rfl := Option.some.inj H
                        go_wp2_with (first | ((with_reducible refine gate_callee (f := 11) rfl ?_); refine goesL_ (some 28) rfl rfl Try.func11 (by kernel_rfl) rfl #[.string a0] rfl (by (try simp only [List.map_toArray, List.map_cons, List.map_nil]); first | done | rfl | (simp only [List.length_drop, List.length_take]; rfl)) ?_; (with_reducible refine (lexer_Scan.calls kj2 a0 t276 t277 t278 _ ?side1 A8.out).mono ?_); (case side1 => first | ((with_reducible repeat (first | exact HSHP.out | refine Shp.alloc ?_ _ | refine Shp.drewN ?_ _ | refine Shp.drew ?_)); done) | (with_reducible refine Shp.below HSHP.out ?_; repeat (first | (with_reducible first | exact HB.out | apply below_alloc | apply pw_below_drewN | apply below_drew1) | exact HB.out))); rintro e w20 ⟨v279, rfl, ho0, hb⟩; refine ⟨_, rfl, ?_⟩; have n0_ := Aside0.mk (Kd.R_lower ho0 (below_size (by repeat (first | (with_reducible first | exact HB.out | apply below_alloc | apply pw_below_drewN | apply below_drew1) | exact HB.out)))); have n1_ := Aside0.mk (below_step (by repeat (first | (with_reducible first | exact HB.out | apply below_alloc | apply pw_below_drewN | apply below_drew1) | exact HB.out)) hb); clear HB; have HO280 := n0_; have HB := n1_; clear n0_ n1_; (try clear hb); (try clear hb2); (try clear hk); (try clear hi); (try clear ho0)) | ((with_reducible refine gate_callee (f := 11) rfl ?_); refine goesL_ (some 39) rfl rfl Try.func11 (by kernel_rfl) rfl #[.string ((a0 ++ (⟨#[32, 10]⟩ : ByteArray)) ++ a1)] rfl (by (try simp only [List.map_toArray, List.map_cons, List.map_nil]); first | done | rfl | (simp only [List.length_drop, List.length_take]; rfl)) ?_; (with_reducible refine (lexer_Scan.calls kj2 ((a0 ++ (⟨#[32, 10]⟩ : ByteArray)) ++ a1) t281 t282 t283 _ ?side1 A12.out).mono ?_); (case side1 => first | ((with_reducible repeat (first | exact HSHP.out | refine Shp.alloc ?_ _ | refine Shp.drewN ?_ _ | refine Shp.drew ?_)); done) | (with_reducible refine Shp.below HSHP.out ?_; repeat (first | (with_reducible first | exact HB.out | apply below_alloc | apply pw_below_drewN | apply below_drew1) | exact HB.out))); rintro e w21 ⟨v284, rfl, ho0, hb⟩; refine ⟨_, rfl, ?_⟩; have n0_ := Aside0.mk (Kd.R_elder' (by (with_reducible repeat (first | apply Kd.R_alloc | apply Kd.R_drewN | apply Kd.R_drew)); exact HO280.out) (Kd.R_base ho0) hb); have n1_ := Aside0.mk (Kd.R_lower (Kd.R_new' ho0 (Kd.R_lt (by (with_reducible repeat (first | apply Kd.R_alloc | apply Kd.R_drewN | apply Kd.R_drew)); exact HO280.out))) (below_size (by repeat (first | (with_reducible first | exact HB.out | apply below_alloc | apply pw_below_drewN | apply below_drew1) | exact HB.out)))); have n2_ := Aside0.mk (below_step (by repeat (first | (with_reducible first | exact HB.out | apply below_alloc | apply pw_below_drewN | apply below_drew1) | exact HB.out)) hb); clear HO280; clear HB; have HO280 := n0_; have HO285 := n1_; have HB := n2_; clear n0_ n1_ n2_; (try clear hb); (try clear hb2); (try clear hk); (try clear hi); (try clear ho0)) | ((with_reducible refine gate_callee (f := 10) rfl ?_); refine goesL_ (some 51) rfl rfl Try.func10 (by kernel_rfl) rfl #[] rfl (by (try simp only [List.map_toArray, List.map_cons, List.map_nil]); first | done | rfl | (simp only [List.length_drop, List.length_take]; rfl)) ?_; (with_reducible refine (selfstablaw04_awake.calls kj2  true _ ?side1 A14.out).mono ?_); (case side1 => first | ((with_reducible repeat (first | exact HSHP.out | refine Shp.alloc ?_ _ | refine Shp.drewN ?_ _ | refine Shp.drew ?_)); done) | (with_reducible refine Shp.below HSHP.out ?_; repeat (first | (with_reducible first | exact HB.out | apply below_alloc | apply pw_below_drewN | apply below_drew1) | exact HB.out))); rintro e w22 ⟨rfl, hb⟩; refine ⟨_, rfl, ?_⟩; have n0_ := Aside0.mk (Kd.R_below (by (with_reducible repeat (first | apply Kd.R_alloc | apply Kd.R_drewN | apply Kd.R_drew)); exact HO280.out) hb); have n1_ := Aside0.mk (Kd.R_below (by (with_reducible repeat (first | apply Kd.R_alloc | apply Kd.R_drewN | apply Kd.R_drew)); exact HO285.out) hb); have n2_ := Aside0.mk (below_step (by repeat (first | (with_reducible first | exact HB.out | apply below_alloc | apply pw_below_drewN | apply below_drew1) | exact HB.out)) hb); clear HO280; clear HO285; clear HB; have HO280 := n0_; have HO285 := n1_; have HB := n2_; clear n0_ n1_ n2_; (try clear hb); (try clear hb2); (try clear hk); (try clear hi); obtain ⟨Ao23, co23, eo23⟩ := Kd.R_slice HO285.out; subst eo23; obtain ⟨Ao24, co24, eo24⟩ := Kd.R_slice HO280.out; subst eo24; have q25 : ((t276.length : Int) : Int) ≤ ((t281.length : Int) : Int) := of_decide_eq_true (by first | (with_reducible assumption) | assumption); obtain ⟨i025, hi025, _, hsz25, _⟩ := info_parts info32; have hroom25 : t281.length ≤ co23 := (Kd.R_reads' HO285.out).2.1; have hC25 : Kd.C k32 _ Ao23 t281.length t281 := (Kd.R_reads' HO285.out).2.2; have hcut25 := cut_to (P := Try.prog) 23 32 .i64 Try.underlying23 hi025 Ao23 t281.length co23 (t276.length : Int) (of_decide_eq_true (by first | (with_reducible assumption) | assumption)) q25 hroom25; have hr25 := Kd.C_take (m := ((t276.length : Int) : Int).toNat) hC25 (by omega); have hy25 : y288.length = ((t276.length : Int) : Int).toNat := (by rw [Ny288.out, List.length_take]; omega); rw [← Ny288.out] at hr25; rw [← hy25] at hcut25; have HR291 := Aside0.mk hr25; have HC291 := Aside0.mk (show y288.length ≤ co23 from by omega); clear hr25 hC25 hroom25 hi025 hsz25; have KY25 := Aside0.mk hy25; clear hy25; have KL25 := Aside0.mk (show ((t276.length : Int) : Int).toNat ≤ t281.length from by omega); replace q25 := eq_true q25) | (go_at_call 13; (with_reducible refine (selfstabref04_Same.calls kj2 _ _ y288 _ _ t276 t292 _ ?side1 ?side2 ?side3 ?side4 A19.out).mono ?_); (case side1 => repeat (first | exact (by repeat (first | (with_reducible exact HR291.out) | (with_reducible refine Kd.C_alloc ?_ _) | (with_reducible refine Kd.C_drewN ?_ _) | (with_reducible refine Kd.C_drew ?_) | exact HR291.out)) | (with_reducible refine Kd.C_alloc ?_ _) | (with_reducible refine Kd.C_drewN ?_ _) | (with_reducible refine Kd.C_drew ?_))); (case side2 => exact HC291.out); (case side3 => repeat (first | exact (Kd.R_reads' HO280.out).2.2 | (with_reducible refine Kd.C_alloc ?_ _) | (with_reducible refine Kd.C_drewN ?_ _) | (with_reducible refine Kd.C_drew ?_))); (case side4 => exact (Kd.R_reads' HO280.out).2.1); rintro e w' ⟨rfl, ⟨nd, rfl⟩⟩))
                        go_ret
                        exact ⟨by first | rfl | (simp [errW_none, errW_some] <;> rfl) | (simp [*, errW_none, errW_some] <;> rfl), by repeat (first | (with_reducible first | exact HB.out | apply below_alloc | apply pw_below_drewN | apply below_drew1) | exact HB.out)⟩
                      · rw [if_neg c18] at H
                        exact absurd H (by simp)
                    · rw [if_neg c17] at H
                      exact absurd H (by simp)
                  · rw [if_neg c16] at H
                    have c16b0 : decide ((t276.length : Int) ≤ (t281.length : Int)) = false := decide_eq_false c16
                    have c16b1 : decide (t276.length ≤ t281.length) = false := decide_eq_false (fun h => c16 (Int.ofNat_le.mpr h))
                    clear c16
                    obtain rfl := Option.some.inj H
                    go_wp2_with (first | ((with_reducible refine gate_callee (f := 11) rfl ?_); refine goesL_ (some 28) rfl rfl Try.func11 (by kernel_rfl) rfl #[.string a0] rfl (by (try simp only [List.map_toArray, List.map_cons, List.map_nil]); first | done | rfl | (simp only [List.length_drop, List.length_take]; rfl)) ?_; (with_reducible refine (lexer_Scan.calls kj2 a0 t276 t277 t278 _ ?side1 A8.out).mono ?_); (case side1 => first | ((with_reducible repeat (first | exact HSHP.out | refine Shp.alloc ?_ _ | refine Shp.drewN ?_ _ | refine Shp.drew ?_)); done) | (with_reducible refine Shp.below HSHP.out ?_; repeat (first | (with_reducible first | exact HB.out | apply below_alloc | apply pw_below_drewN | apply below_drew1) | exact HB.out))); rintro e w26 ⟨v279, rfl, ho0, hb⟩; refine ⟨_, rfl, ?_⟩; have n0_ := Aside0.mk (Kd.R_lower ho0 (below_size (by repeat (first | (with_reducible first | exact HB.out | apply below_alloc | apply pw_below_drewN | apply below_drew1) | exact HB.out)))); have n1_ := Aside0.mk (below_step (by repeat (first | (with_reducible first | exact HB.out | apply below_alloc | apply pw_below_drewN | apply below_drew1) | exact HB.out)) hb); clear HB; have HO280 := n0_; have HB := n1_; clear n0_ n1_; (try clear hb); (try clear hb2); (try clear hk); (try clear hi); (try clear ho0)) | ((with_reducible refine gate_callee (f := 11) rfl ?_); refine goesL_ (some 39) rfl rfl Try.func11 (by kernel_rfl) rfl #[.string ((a0 ++ (⟨#[32, 10]⟩ : ByteArray)) ++ a1)] rfl (by (try simp only [List.map_toArray, List.map_cons, List.map_nil]); first | done | rfl | (simp only [List.length_drop, List.length_take]; rfl)) ?_; (with_reducible refine (lexer_Scan.calls kj2 ((a0 ++ (⟨#[32, 10]⟩ : ByteArray)) ++ a1) t281 t282 t283 _ ?side1 A12.out).mono ?_); (case side1 => first | ((with_reducible repeat (first | exact HSHP.out | refine Shp.alloc ?_ _ | refine Shp.drewN ?_ _ | refine Shp.drew ?_)); done) | (with_reducible refine Shp.below HSHP.out ?_; repeat (first | (with_reducible first | exact HB.out | apply below_alloc | apply pw_below_drewN | apply below_drew1) | exact HB.out))); rintro e w27 ⟨v284, rfl, ho0, hb⟩; refine ⟨_, rfl, ?_⟩; have n0_ := Aside0.mk (Kd.R_elder' (by (with_reducible repeat (first | apply Kd.R_alloc | apply Kd.R_drewN | apply Kd.R_drew)); exact HO280.out) (Kd.R_base ho0) hb); have n1_ := Aside0.mk (Kd.R_lower (Kd.R_new' ho0 (Kd.R_lt (by (with_reducible repeat (first | apply Kd.R_alloc | apply Kd.R_drewN | apply Kd.R_drew)); exact HO280.out))) (below_size (by repeat (first | (with_reducible first | exact HB.out | apply below_alloc | apply pw_below_drewN | apply below_drew1) | exact HB.out)))); have n2_ := Aside0.mk (below_step (by repeat (first | (with_reducible first | exact HB.out | apply below_alloc | apply pw_below_drewN | apply below_drew1) | exact HB.out)) hb); clear HO280; clear HB; have HO280 := n0_; have HO285 := n1_; have HB := n2_; clear n0_ n1_ n2_; (try clear hb); (try clear hb2); (try clear hk); (try clear hi); (try clear ho0)) | ((with_reducible refine gate_callee (f := 10) rfl ?_); refine goesL_ (some 51) rfl rfl Try.func10 (by kernel_rfl) rfl #[] rfl (by (try simp only [List.map_toArray, List.map_cons, List.map_nil]); first | done | rfl | (simp only [List.length_drop, List.length_take]; rfl)) ?_; (with_reducible refine (selfstablaw04_awake.calls kj2  true _ ?side1 A14.out).mono ?_); (case side1 => first | ((with_reducible repeat (first | exact HSHP.out | refine Shp.alloc ?_ _ | refine Shp.drewN ?_ _ | refine Shp.drew ?_)); done) | (with_reducible refine Shp.below HSHP.out ?_; repeat (first | (with_reducible first | exact HB.out | apply below_alloc | apply pw_below_drewN | apply below_drew1) | exact HB.out))); rintro e w28 ⟨rfl, hb⟩; refine ⟨_, rfl, ?_⟩; have n0_ := Aside0.mk (Kd.R_below (by (with_reducible repeat (first | apply Kd.R_alloc | apply Kd.R_drewN | apply Kd.R_drew)); exact HO280.out) hb); have n1_ := Aside0.mk (Kd.R_below (by (with_reducible repeat (first | apply Kd.R_alloc | apply Kd.R_drewN | apply Kd.R_drew)); exact HO285.out) hb); have n2_ := Aside0.mk (below_step (by repeat (first | (with_reducible first | exact HB.out | apply below_alloc | apply pw_below_drewN | apply below_drew1) | exact HB.out)) hb); clear HO280; clear HO285; clear HB; have HO280 := n0_; have HO285 := n1_; have HB := n2_; clear n0_ n1_ n2_; (try clear hb); (try clear hb2); (try clear hk); (try clear hi); obtain ⟨Ao29, co29, eo29⟩ := Kd.R_slice HO285.out; subst eo29; obtain ⟨Ao30, co30, eo30⟩ := Kd.R_slice HO280.out; subst eo30))
                    go_ret
                    exact ⟨by first | rfl | (simp [errW_none, errW_some] <;> rfl) | (simp [*, errW_none, errW_some] <;> rfl), by repeat (first | (with_reducible first | exact HB.out | apply below_alloc | apply pw_below_drewN | apply below_drew1) | exact HB.out)⟩
                · replace c15 := Bool.eq_false_iff.mpr c15
                  subst c15
                  have H1 : (some false) = some r := by rw [if_neg (show ¬ (false = true) by decide)] at H; exact H
                  clear H
                  have H := H1
                  clear H1
                  obtain rfl := Option.some.inj H
                  go_wp2_with (first | ((with_reducible refine gate_callee (f := 11) rfl ?_); refine goesL_ (some 28) rfl rfl Try.func11 (by kernel_rfl) rfl #[.string a0] rfl (by (try simp only [List.map_toArray, List.map_cons, List.map_nil]); first | done | rfl | (simp only [List.length_drop, List.length_take]; rfl)) ?_; (with_reducible refine (lexer_Scan.calls kj2 a0 t276 t277 t278 _ ?side1 A8.out).mono ?_); (case side1 => first | ((with_reducible repeat (first | exact HSHP.out | refine Shp.alloc ?_ _ | refine Shp.drewN ?_ _ | refine Shp.drew ?_)); done) | (with_reducible refine Shp.below HSHP.out ?_; repeat (first | (with_reducible first | exact HB.out | apply below_alloc | apply pw_below_drewN | apply below_drew1) | exact HB.out))); rintro e w31 ⟨v279, rfl, ho0, hb⟩; refine ⟨_, rfl, ?_⟩; have n0_ := Aside0.mk (Kd.R_lower ho0 (below_size (by repeat (first | (with_reducible first | exact HB.out | apply below_alloc | apply pw_below_drewN | apply below_drew1) | exact HB.out)))); have n1_ := Aside0.mk (below_step (by repeat (first | (with_reducible first | exact HB.out | apply below_alloc | apply pw_below_drewN | apply below_drew1) | exact HB.out)) hb); clear HB; have HO280 := n0_; have HB := n1_; clear n0_ n1_; (try clear hb); (try clear hb2); (try clear hk); (try clear hi); (try clear ho0)) | ((with_reducible refine gate_callee (f := 11) rfl ?_); refine goesL_ (some 39) rfl rfl Try.func11 (by kernel_rfl) rfl #[.string ((a0 ++ (⟨#[32, 10]⟩ : ByteArray)) ++ a1)] rfl (by (try simp only [List.map_toArray, List.map_cons, List.map_nil]); first | done | rfl | (simp only [List.length_drop, List.length_take]; rfl)) ?_; (with_reducible refine (lexer_Scan.calls kj2 ((a0 ++ (⟨#[32, 10]⟩ : ByteArray)) ++ a1) t281 t282 t283 _ ?side1 A12.out).mono ?_); (case side1 => first | ((with_reducible repeat (first | exact HSHP.out | refine Shp.alloc ?_ _ | refine Shp.drewN ?_ _ | refine Shp.drew ?_)); done) | (with_reducible refine Shp.below HSHP.out ?_; repeat (first | (with_reducible first | exact HB.out | apply below_alloc | apply pw_below_drewN | apply below_drew1) | exact HB.out))); rintro e w32 ⟨v284, rfl, ho0, hb⟩; refine ⟨_, rfl, ?_⟩; have n0_ := Aside0.mk (Kd.R_elder' (by (with_reducible repeat (first | apply Kd.R_alloc | apply Kd.R_drewN | apply Kd.R_drew)); exact HO280.out) (Kd.R_base ho0) hb); have n1_ := Aside0.mk (Kd.R_lower (Kd.R_new' ho0 (Kd.R_lt (by (with_reducible repeat (first | apply Kd.R_alloc | apply Kd.R_drewN | apply Kd.R_drew)); exact HO280.out))) (below_size (by repeat (first | (with_reducible first | exact HB.out | apply below_alloc | apply pw_below_drewN | apply below_drew1) | exact HB.out)))); have n2_ := Aside0.mk (below_step (by repeat (first | (with_reducible first | exact HB.out | apply below_alloc | apply pw_below_drewN | apply below_drew1) | exact HB.out)) hb); clear HO280; clear HB; have HO280 := n0_; have HO285 := n1_; have HB := n2_; clear n0_ n1_ n2_; (try clear hb); (try clear hb2); (try clear hk); (try clear hi); (try clear ho0)) | ((with_reducible refine gate_callee (f := 10) rfl ?_); refine goesL_ (some 51) rfl rfl Try.func10 (by kernel_rfl) rfl #[] rfl (by (try simp only [List.map_toArray, List.map_cons, List.map_nil]); first | done | rfl | (simp only [List.length_drop, List.length_take]; rfl)) ?_; (with_reducible refine (selfstablaw04_awake.calls kj2  false _ ?side1 A14.out).mono ?_); (case side1 => first | ((with_reducible repeat (first | exact HSHP.out | refine Shp.alloc ?_ _ | refine Shp.drewN ?_ _ | refine Shp.drew ?_)); done) | (with_reducible refine Shp.below HSHP.out ?_; repeat (first | (with_reducible first | exact HB.out | apply below_alloc | apply pw_below_drewN | apply below_drew1) | exact HB.out))); rintro e w33 ⟨rfl, hb⟩; refine ⟨_, rfl, ?_⟩; have n0_ := Aside0.mk (Kd.R_below (by (with_reducible repeat (first | apply Kd.R_alloc | apply Kd.R_drewN | apply Kd.R_drew)); exact HO280.out) hb); have n1_ := Aside0.mk (Kd.R_below (by (with_reducible repeat (first | apply Kd.R_alloc | apply Kd.R_drewN | apply Kd.R_drew)); exact HO285.out) hb); have n2_ := Aside0.mk (below_step (by repeat (first | (with_reducible first | exact HB.out | apply below_alloc | apply pw_below_drewN | apply below_drew1) | exact HB.out)) hb); clear HO280; clear HO285; clear HB; have HO280 := n0_; have HO285 := n1_; have HB := n2_; clear n0_ n1_ n2_; (try clear hb); (try clear hb2); (try clear hk); (try clear hi)))
                  go_ret
                  exact ⟨by first | rfl | (simp [errW_none, errW_some] <;> rfl) | (simp [*, errW_none, errW_some] <;> rfl), by repeat (first | (with_reducible first | exact HB.out | apply below_alloc | apply pw_below_drewN | apply below_drew1) | exact HB.out)⟩
              · rw [if_neg c13] at H
                have c13b0 : (t283 == 0) = false := beq_eq_false_iff_ne.mpr c13
                have c13b1 : (t283 != 0) = true := bne_iff_ne.mpr c13
                replace H := Option.bind_eq_some_iff.mp H
                obtain ⟨t286, A340, H⟩ := H
                replace H : (if t286 = true then (some ((t281.length : Int) == 0)) else (some false)) = some r := H
                have A34 := Aside0.mk A340
                clear A340
                by_cases c35 : t286 = true
                · subst c35
                  have H1 : (some ((t281.length : Int) == 0)) = some r := by rw [if_pos rfl] at H; exact H
                  clear H
                  have H := H1
                  clear H1
                  obtain rfl := Option.some.inj H
                  go_wp2_with (first | ((with_reducible refine gate_callee (f := 11) rfl ?_); refine goesL_ (some 28) rfl rfl Try.func11 (by kernel_rfl) rfl #[.string a0] rfl (by (try simp only [List.map_toArray, List.map_cons, List.map_nil]); first | done | rfl | (simp only [List.length_drop, List.length_take]; rfl)) ?_; (with_reducible refine (lexer_Scan.calls kj2 a0 t276 t277 t278 _ ?side1 A8.out).mono ?_); (case side1 => first | ((with_reducible repeat (first | exact HSHP.out | refine Shp.alloc ?_ _ | refine Shp.drewN ?_ _ | refine Shp.drew ?_)); done) | (with_reducible refine Shp.below HSHP.out ?_; repeat (first | (with_reducible first | exact HB.out | apply below_alloc | apply pw_below_drewN | apply below_drew1) | exact HB.out))); rintro e w36 ⟨v279, rfl, ho0, hb⟩; refine ⟨_, rfl, ?_⟩; have n0_ := Aside0.mk (Kd.R_lower ho0 (below_size (by repeat (first | (with_reducible first | exact HB.out | apply below_alloc | apply pw_below_drewN | apply below_drew1) | exact HB.out)))); have n1_ := Aside0.mk (below_step (by repeat (first | (with_reducible first | exact HB.out | apply below_alloc | apply pw_below_drewN | apply below_drew1) | exact HB.out)) hb); clear HB; have HO280 := n0_; have HB := n1_; clear n0_ n1_; (try clear hb); (try clear hb2); (try clear hk); (try clear hi); (try clear ho0)) | ((with_reducible refine gate_callee (f := 11) rfl ?_); refine goesL_ (some 39) rfl rfl Try.func11 (by kernel_rfl) rfl #[.string ((a0 ++ (⟨#[32, 10]⟩ : ByteArray)) ++ a1)] rfl (by (try simp only [List.map_toArray, List.map_cons, List.map_nil]); first | done | rfl | (simp only [List.length_drop, List.length_take]; rfl)) ?_; (with_reducible refine (lexer_Scan.calls kj2 ((a0 ++ (⟨#[32, 10]⟩ : ByteArray)) ++ a1) t281 t282 t283 _ ?side1 A12.out).mono ?_); (case side1 => first | ((with_reducible repeat (first | exact HSHP.out | refine Shp.alloc ?_ _ | refine Shp.drewN ?_ _ | refine Shp.drew ?_)); done) | (with_reducible refine Shp.below HSHP.out ?_; repeat (first | (with_reducible first | exact HB.out | apply below_alloc | apply pw_below_drewN | apply below_drew1) | exact HB.out))); rintro e w37 ⟨v284, rfl, ho0, hb⟩; refine ⟨_, rfl, ?_⟩; have n0_ := Aside0.mk (Kd.R_elder' (by (with_reducible repeat (first | apply Kd.R_alloc | apply Kd.R_drewN | apply Kd.R_drew)); exact HO280.out) (Kd.R_base ho0) hb); have n1_ := Aside0.mk (Kd.R_lower (Kd.R_new' ho0 (Kd.R_lt (by (with_reducible repeat (first | apply Kd.R_alloc | apply Kd.R_drewN | apply Kd.R_drew)); exact HO280.out))) (below_size (by repeat (first | (with_reducible first | exact HB.out | apply below_alloc | apply pw_below_drewN | apply below_drew1) | exact HB.out)))); have n2_ := Aside0.mk (below_step (by repeat (first | (with_reducible first | exact HB.out | apply below_alloc | apply pw_below_drewN | apply below_drew1) | exact HB.out)) hb); clear HO280; clear HB; have HO280 := n0_; have HO285 := n1_; have HB := n2_; clear n0_ n1_ n2_; (try clear hb); (try clear hb2); (try clear hk); (try clear hi); (try clear ho0)) | ((with_reducible refine gate_callee (f := 10) rfl ?_); refine goesL_ (some 45) rfl rfl Try.func10 (by kernel_rfl) rfl #[] rfl (by (try simp only [List.map_toArray, List.map_cons, List.map_nil]); first | done | rfl | (simp only [List.length_drop, List.length_take]; rfl)) ?_; (with_reducible refine (selfstablaw04_awake.calls kj2  true _ ?side1 A34.out).mono ?_); (case side1 => first | ((with_reducible repeat (first | exact HSHP.out | refine Shp.alloc ?_ _ | refine Shp.drewN ?_ _ | refine Shp.drew ?_)); done) | (with_reducible refine Shp.below HSHP.out ?_; repeat (first | (with_reducible first | exact HB.out | apply below_alloc | apply pw_below_drewN | apply below_drew1) | exact HB.out))); rintro e w38 ⟨rfl, hb⟩; refine ⟨_, rfl, ?_⟩; have n0_ := Aside0.mk (Kd.R_below (by (with_reducible repeat (first | apply Kd.R_alloc | apply Kd.R_drewN | apply Kd.R_drew)); exact HO280.out) hb); have n1_ := Aside0.mk (Kd.R_below (by (with_reducible repeat (first | apply Kd.R_alloc | apply Kd.R_drewN | apply Kd.R_drew)); exact HO285.out) hb); have n2_ := Aside0.mk (below_step (by repeat (first | (with_reducible first | exact HB.out | apply below_alloc | apply pw_below_drewN | apply below_drew1) | exact HB.out)) hb); clear HO280; clear HO285; clear HB; have HO280 := n0_; have HO285 := n1_; have HB := n2_; clear n0_ n1_ n2_; (try clear hb); (try clear hb2); (try clear hk); (try clear hi); obtain ⟨Ao39, co39, eo39⟩ := Kd.R_slice HO285.out; subst eo39))
                  go_ret
                  exact ⟨by first | rfl | (simp [errW_none, errW_some] <;> rfl) | (simp [*, errW_none, errW_some] <;> rfl), by repeat (first | (with_reducible first | exact HB.out | apply below_alloc | apply pw_below_drewN | apply below_drew1) | exact HB.out)⟩
                · replace c35 := Bool.eq_false_iff.mpr c35
                  subst c35
                  have H1 : (some false) = some r := by rw [if_neg (show ¬ (false = true) by decide)] at H; exact H
                  clear H
                  have H := H1
                  clear H1
                  obtain rfl := Option.some.inj H
                  go_wp2_with (first | ((with_reducible refine gate_callee (f := 11) rfl ?_); refine goesL_ (some 28) rfl rfl Try.func11 (by kernel_rfl) rfl #[.string a0] rfl (by (try simp only [List.map_toArray, List.map_cons, List.map_nil]); first | done | rfl | (simp only [List.length_drop, List.length_take]; rfl)) ?_; (with_reducible refine (lexer_Scan.calls kj2 a0 t276 t277 t278 _ ?side1 A8.out).mono ?_); (case side1 => first | ((with_reducible repeat (first | exact HSHP.out | refine Shp.alloc ?_ _ | refine Shp.drewN ?_ _ | refine Shp.drew ?_)); done) | (with_reducible refine Shp.below HSHP.out ?_; repeat (first | (with_reducible first | exact HB.out | apply below_alloc | apply pw_below_drewN | apply below_drew1) | exact HB.out))); rintro e w40 ⟨v279, rfl, ho0, hb⟩; refine ⟨_, rfl, ?_⟩; have n0_ := Aside0.mk (Kd.R_lower ho0 (below_size (by repeat (first | (with_reducible first | exact HB.out | apply below_alloc | apply pw_below_drewN | apply below_drew1) | exact HB.out)))); have n1_ := Aside0.mk (below_step (by repeat (first | (with_reducible first | exact HB.out | apply below_alloc | apply pw_below_drewN | apply below_drew1) | exact HB.out)) hb); clear HB; have HO280 := n0_; have HB := n1_; clear n0_ n1_; (try clear hb); (try clear hb2); (try clear hk); (try clear hi); (try clear ho0)) | ((with_reducible refine gate_callee (f := 11) rfl ?_); refine goesL_ (some 39) rfl rfl Try.func11 (by kernel_rfl) rfl #[.string ((a0 ++ (⟨#[32, 10]⟩ : ByteArray)) ++ a1)] rfl (by (try simp only [List.map_toArray, List.map_cons, List.map_nil]); first | done | rfl | (simp only [List.length_drop, List.length_take]; rfl)) ?_; (with_reducible refine (lexer_Scan.calls kj2 ((a0 ++ (⟨#[32, 10]⟩ : ByteArray)) ++ a1) t281 t282 t283 _ ?side1 A12.out).mono ?_); (case side1 => first | ((with_reducible repeat (first | exact HSHP.out | refine Shp.alloc ?_ _ | refine Shp.drewN ?_ _ | refine Shp.drew ?_)); done) | (with_reducible refine Shp.below HSHP.out ?_; repeat (first | (with_reducible first | exact HB.out | apply below_alloc | apply pw_below_drewN | apply below_drew1) | exact HB.out))); rintro e w41 ⟨v284, rfl, ho0, hb⟩; refine ⟨_, rfl, ?_⟩; have n0_ := Aside0.mk (Kd.R_elder' (by (with_reducible repeat (first | apply Kd.R_alloc | apply Kd.R_drewN | apply Kd.R_drew)); exact HO280.out) (Kd.R_base ho0) hb); have n1_ := Aside0.mk (Kd.R_lower (Kd.R_new' ho0 (Kd.R_lt (by (with_reducible repeat (first | apply Kd.R_alloc | apply Kd.R_drewN | apply Kd.R_drew)); exact HO280.out))) (below_size (by repeat (first | (with_reducible first | exact HB.out | apply below_alloc | apply pw_below_drewN | apply below_drew1) | exact HB.out)))); have n2_ := Aside0.mk (below_step (by repeat (first | (with_reducible first | exact HB.out | apply below_alloc | apply pw_below_drewN | apply below_drew1) | exact HB.out)) hb); clear HO280; clear HB; have HO280 := n0_; have HO285 := n1_; have HB := n2_; clear n0_ n1_ n2_; (try clear hb); (try clear hb2); (try clear hk); (try clear hi); (try clear ho0)) | ((with_reducible refine gate_callee (f := 10) rfl ?_); refine goesL_ (some 45) rfl rfl Try.func10 (by kernel_rfl) rfl #[] rfl (by (try simp only [List.map_toArray, List.map_cons, List.map_nil]); first | done | rfl | (simp only [List.length_drop, List.length_take]; rfl)) ?_; (with_reducible refine (selfstablaw04_awake.calls kj2  false _ ?side1 A34.out).mono ?_); (case side1 => first | ((with_reducible repeat (first | exact HSHP.out | refine Shp.alloc ?_ _ | refine Shp.drewN ?_ _ | refine Shp.drew ?_)); done) | (with_reducible refine Shp.below HSHP.out ?_; repeat (first | (with_reducible first | exact HB.out | apply below_alloc | apply pw_below_drewN | apply below_drew1) | exact HB.out))); rintro e w42 ⟨rfl, hb⟩; refine ⟨_, rfl, ?_⟩; have n0_ := Aside0.mk (Kd.R_below (by (with_reducible repeat (first | apply Kd.R_alloc | apply Kd.R_drewN | apply Kd.R_drew)); exact HO280.out) hb); have n1_ := Aside0.mk (Kd.R_below (by (with_reducible repeat (first | apply Kd.R_alloc | apply Kd.R_drewN | apply Kd.R_drew)); exact HO285.out) hb); have n2_ := Aside0.mk (below_step (by repeat (first | (with_reducible first | exact HB.out | apply below_alloc | apply pw_below_drewN | apply below_drew1) | exact HB.out)) hb); clear HO280; clear HO285; clear HB; have HO280 := n0_; have HO285 := n1_; have HB := n2_; clear n0_ n1_ n2_; (try clear hb); (try clear hb2); (try clear hk); (try clear hi)))
                  go_ret
                  exact ⟨by first | rfl | (simp [errW_none, errW_some] <;> rfl) | (simp [*, errW_none, errW_some] <;> rfl), by repeat (first | (with_reducible first | exact HB.out | apply below_alloc | apply pw_below_drewN | apply below_drew1) | exact HB.out)⟩
            · rw [if_neg c11] at H
              exact absurd H (by simp)
          · rw [if_neg c10] at H
            exact absurd H (by simp)
        · rw [if_neg c9] at H
          have c9b0 : (t278 == 0) = false := beq_eq_false_iff_ne.mpr c9
          have c9b1 : (t278 != 0) = true := bne_iff_ne.mpr c9
          have HC43 := Aside0.mk H
          clear H
          go_upto_region 9 with (first | ((with_reducible refine gate_callee (f := 11) rfl ?_); refine goesL_ (some 28) rfl rfl Try.func11 (by kernel_rfl) rfl #[.string a0] rfl (by (try simp only [List.map_toArray, List.map_cons, List.map_nil]); first | done | rfl | (simp only [List.length_drop, List.length_take]; rfl)) ?_; (with_reducible refine (lexer_Scan.calls kj2 a0 t276 t277 t278 _ ?side1 A8.out).mono ?_); (case side1 => first | ((with_reducible repeat (first | exact HSHP.out | refine Shp.alloc ?_ _ | refine Shp.drewN ?_ _ | refine Shp.drew ?_)); done) | (with_reducible refine Shp.below HSHP.out ?_; repeat (first | (with_reducible first | exact HB.out | apply below_alloc | apply pw_below_drewN | apply below_drew1) | exact HB.out))); rintro e w44 ⟨v279, rfl, ho0, hb⟩; refine ⟨_, rfl, ?_⟩; have n0_ := Aside0.mk (Kd.R_lower ho0 (below_size (by repeat (first | (with_reducible first | exact HB.out | apply below_alloc | apply pw_below_drewN | apply below_drew1) | exact HB.out)))); have n1_ := Aside0.mk (below_step (by repeat (first | (with_reducible first | exact HB.out | apply below_alloc | apply pw_below_drewN | apply below_drew1) | exact HB.out)) hb); clear HB; have HO280 := n0_; have HB := n1_; clear n0_ n1_; (try clear hb); (try clear hb2); (try clear hk); (try clear hi); (try clear ho0)))
          (try simp only [Act.put, List.setIfInBounds_toArray, List.set_cons_zero, List.set_cons_succ])
          go_cut [79] (fun v79 wc => ∃ (kq : Nat) (x79_42 : Bool), v79 = .bool x79_42 ∧ Aside0 (selfstablaw04_LexerStopsAtTheError.j1 kq a0 a1 t277 t278 x79_42 = some r) ∧ Aside0 (kq ≤ kj2) ∧ Aside0 (Below w.heap.size w wc))
          case first =>
            have H := HC43.out
            clear HC43
            by_cases c45 : (t276.length : Int) = 0
            · rw [if_pos c45] at H
              have c45b0 : ((t276.length : Int) == 0) = true := beq_iff_eq.mpr c45
              have c45b1 : ((t276.length : Int) != 0) = false := bne_eq_false_iff_eq.mpr c45
              clear c45
              (first | rw [c45b0] | (simp only [i64_w, i32_w]; rw [c45b0]) | skip)
              by_cases c46 : t277 < 0
              · rw [if_pos c46] at H
                have c46b0 : decide (t277 < 0) = true := decide_eq_true c46
                clear c46
                have H' := Aside0.mk H
                clear H
                obtain ⟨Ao47, co47, eo47⟩ := Kd.R_slice HO280.out
                subst eo47
                go_wp2
                go_meet
                case rel => exact ⟨_, (true), (by first | rfl | (simp; done) | (simp [*]; done)), H', ⟨by have := HJ2.out; first | omega | exact Nat.le_refl _⟩, ⟨by repeat (first | (with_reducible first | exact HB.out | apply below_alloc | apply pw_below_drewN | apply below_drew1) | exact HB.out)⟩⟩
              · rw [if_neg c46] at H
                have c46b0 : decide (t277 < 0) = false := decide_eq_false c46
                clear c46
                have H' := Aside0.mk H
                clear H
                obtain ⟨Ao48, co48, eo48⟩ := Kd.R_slice HO280.out
                subst eo48
                go_wp2
                go_meet
                case rel => exact ⟨_, (decide (t277 ≥ (a0.size : Int))), (by first | rfl | (simp; done) | (simp [*]; done)), H', ⟨by have := HJ2.out; first | omega | exact Nat.le_refl _⟩, ⟨by repeat (first | (with_reducible first | exact HB.out | apply below_alloc | apply pw_below_drewN | apply below_drew1) | exact HB.out)⟩⟩
            · rw [if_neg c45] at H
              have c45b0 : ((t276.length : Int) == 0) = false := beq_eq_false_iff_ne.mpr c45
              have c45b1 : ((t276.length : Int) != 0) = true := bne_iff_ne.mpr c45
              have c45b2 : ¬ (t276 = []) := fun h_ => c45 (by rw [h_]; rfl)
              (first | rw [c45b0] | (simp only [i64_w, i32_w]; rw [c45b0]) | skip)
              have H' := Aside0.mk H
              clear H
              obtain ⟨Ao49, co49, eo49⟩ := Kd.R_slice HO280.out
              subst eo49
              go_wp2
              go_meet
              case rel => exact ⟨_, (true), (by first | rfl | (simp; done) | (simp [*]; done)), H', ⟨by have := HJ2.out; first | omega | exact Nat.le_refl _⟩, ⟨by repeat (first | (with_reducible first | exact HB.out | apply below_alloc | apply pw_below_drewN | apply below_drew1) | exact HB.out)⟩⟩
          case rest =>
            clear HC43
            try clear c1
            try clear p2
            try clear q2
            try clear c3
            try clear c4
            try clear c4b0
            try clear c4b1
            try clear c5
            try clear c8
            try clear c9
            try clear c9b0
            try clear c9b1
            try clear c10
            try clear c10b0
            try clear c10b1
            try clear c10b2
            try clear c11
            try clear c11b0
            try clear c11b1
            try clear c11b2
            try clear c13
            try clear c13b0
            try clear c13b1
            try clear c15
            try clear c16
            try clear c16b0
            try clear c16b1
            try clear c17
            try clear c17b0
            try clear c17b1
            try clear c18
            try clear c18b0
            try clear c18b1
            try clear q25
            try clear c35
            try clear c45
            try clear c45b0
            try clear c45b1
            try clear c45b2
            try clear c46
            try clear c46b0
            try clear p2
            try clear q25
            obtain ⟨kq, x79_42, rfl, HA, HJ42, HB⟩ := hcut
            cases kq with
            | zero => exact absurd HA.out (by simp [selfstablaw04_LexerStopsAtTheError.j1])
            | succ kj42 =>
              have H := HA.out
              clear HA
              simp only [selfstablaw04_LexerStopsAtTheError.j1] at H
              by_cases c50 : x79_42 = true
              · subst c50
                have H1 : (some false) = some r := by rw [if_pos rfl] at H; exact H
                clear H
                have H := H1
                clear H1
                obtain rfl := Option.some.inj H
                go_wp2
                go_ret
                exact ⟨by first | rfl | (simp [errW_none, errW_some] <;> rfl) | (simp [*, errW_none, errW_some] <;> rfl), by repeat (first | (with_reducible first | exact HB.out | apply below_alloc | apply pw_below_drewN | apply below_drew1) | exact HB.out)⟩
              · replace c50 := Bool.eq_false_iff.mpr c50
                subst c50
                have H1 : (if 0 ≤ t277 then (if t277 ≤ (a0.size : Int) then ((lexer_Scan.f kj42 (a0.extract 0 (t277 : Int).toNat)).bind fun bt293 => (if a0.size + 1 ≤ 9223372036854775807 then (if (a0 ++ (⟨#[32]⟩ : ByteArray)).size + a1.size ≤ 9223372036854775807 then ((lexer_Scan.f kj42 ((a0 ++ (⟨#[32]⟩ : ByteArray)) ++ a1)).bind fun bt298 => ((selfstablaw04_awake.f kj42).bind fun t303 => (if t303 = true then (if bt293.2.2 = 0 then (if bt298.2.2 = t278 then (some (bt298.2.1 == t277)) else (some false)) else (some false)) else (some false)))) else (none)) else (none))) else (none)) else (none)) = some r := by rw [if_neg (show ¬ (false = true) by decide)] at H; exact H
                clear H
                have H := H1
                clear H1
                by_cases c51 : 0 ≤ t277
                · rw [if_pos c51] at H
                  have c51b0 := eq_true c51
                  have c51b1 : decide (0 ≤ t277) = true := decide_eq_true c51
                  clear c51
                  by_cases c52 : t277 ≤ (a0.size : Int)
                  · rw [if_pos c52] at H
                    have c52b0 := eq_true c52
                    have c52b1 : decide (t277 ≤ (a0.size : Int)) = true := decide_eq_true c52
                    clear c52
                    replace H := Option.bind_eq_some_iff.mp H
                    obtain ⟨⟨t293, t294, t295⟩, A530, H⟩ := H
                    replace H : (if a0.size + 1 ≤ 9223372036854775807 then (if (a0 ++ (⟨#[32]⟩ : ByteArray)).size + a1.size ≤ 9223372036854775807 then ((lexer_Scan.f kj42 ((a0 ++ (⟨#[32]⟩ : ByteArray)) ++ a1)).bind fun bt298 => ((selfstablaw04_awake.f kj42).bind fun t303 => (if t303 = true then (if t295 = 0 then (if bt298.2.2 = t278 then (some (bt298.2.1 == t277)) else (some false)) else (some false)) else (some false)))) else (none)) else (none)) = some r := H
                    have A53 := Aside0.mk A530
                    clear A530
                    by_cases c54 : a0.size + 1 ≤ 9223372036854775807
                    · rw [if_pos c54] at H
                      have c54b0 := eq_true c54
                      have c54b1 : decide (a0.size + 1 ≤ 9223372036854775807) = true := decide_eq_true c54
                      try have c54b2 : (9223372036854775807 < a0.size + 1) = False := eq_false (Nat.not_lt.2 c54)
                      by_cases c55 : (a0 ++ (⟨#[32]⟩ : ByteArray)).size + a1.size ≤ 9223372036854775807
                      · rw [if_pos c55] at H
                        have c55b0 := eq_true c55
                        have c55b1 : decide ((a0 ++ (⟨#[32]⟩ : ByteArray)).size + a1.size ≤ 9223372036854775807) = true := decide_eq_true c55
                        try have c55b2 : (9223372036854775807 < (a0 ++ (⟨#[32]⟩ : ByteArray)).size + a1.size) = False := eq_false (Nat.not_lt.2 c55)
                        replace H := Option.bind_eq_some_iff.mp H
                        obtain ⟨⟨t298, t299, t300⟩, A560, H⟩ := H
                        replace H : ((selfstablaw04_awake.f kj42).bind fun t303 => (if t303 = true then (if t295 = 0 then (if t300 = t278 then (some (t299 == t277)) else (some false)) else (some false)) else (some false))) = some r := H
                        have A56 := Aside0.mk A560
                        clear A560
                        replace H := Option.bind_eq_some_iff.mp H
                        obtain ⟨t303, A570, H⟩ := H
                        replace H : (if t303 = true then (if t295 = 0 then (if t300 = t278 then (some (t299 == t277)) else (some false)) else (some false)) else (some false)) = some r := H
                        have A57 := Aside0.mk A570
                        clear A570
                        by_cases c58 : t303 = true
                        · subst c58
                          have H1 : (if t295 = 0 then (if t300 = t278 then (some (t299 == t277)) else (some false)) else (some false)) = some r := by rw [if_pos rfl] at H; exact H
                          clear H
                          have H := H1
                          clear H1
                          by_cases c59 : t295 = 0
                          · rw [if_pos c59] at H
                            have c59b0 : (t295 == 0) = true := beq_iff_eq.mpr c59
                            have c59b1 : (t295 != 0) = false := bne_eq_false_iff_eq.mpr c59
                            clear c59
                            by_cases c60 : t300 = t278
                            · rw [if_pos c60] at H
                              have c60b0 : (t300 == t278) = true := beq_iff_eq.mpr c60
                              have c60b1 : (t300 != t278) = false := bne_eq_false_iff_eq.mpr c60
                              clear c60
                              obtain rfl := Option.some.inj H
                              go_wp2_with (first | ((with_reducible refine gate_callee (f := 11) rfl ?_); refine goesL_ (some 84) rfl rfl Try.func11 (by kernel_rfl) rfl #[.string (a0.extract 0 (t277 : Int).toNat)] rfl (by (try simp only [List.map_toArray, List.map_cons, List.map_nil]); first | done | rfl | (simp only [List.length_drop, List.length_take]; rfl)) ?_; (with_reducible refine (lexer_Scan.calls kj42 (a0.extract 0 (t277 : Int).toNat) t293 t294 t295 _ ?side1 A53.out).mono ?_); (case side1 => first | ((with_reducible repeat (first | exact HSHP.out | refine Shp.alloc ?_ _ | refine Shp.drewN ?_ _ | refine Shp.drew ?_)); done) | (with_reducible refine Shp.below HSHP.out ?_; repeat (first | (with_reducible first | exact HB.out | apply below_alloc | apply pw_below_drewN | apply below_drew1) | exact HB.out))); rintro e w61 ⟨v296, rfl, ho0, hb⟩; refine ⟨_, rfl, ?_⟩; have n0_ := Aside0.mk (Kd.R_lower ho0 (below_size (by repeat (first | (with_reducible first | exact HB.out | apply below_alloc | apply pw_below_drewN | apply below_drew1) | exact HB.out)))); have n1_ := Aside0.mk (below_step (by repeat (first | (with_reducible first | exact HB.out | apply below_alloc | apply pw_below_drewN | apply below_drew1) | exact HB.out)) hb); clear HB; have HO297 := n0_; have HB := n1_; clear n0_ n1_; (try clear hb); (try clear hb2); (try clear hk); (try clear hi); (try clear ho0)) | ((with_reducible refine gate_callee (f := 11) rfl ?_); refine goesL_ (some 93) rfl rfl Try.func11 (by kernel_rfl) rfl #[.string ((a0 ++ (⟨#[32]⟩ : ByteArray)) ++ a1)] rfl (by (try simp only [List.map_toArray, List.map_cons, List.map_nil]); first | done | rfl | (simp only [List.length_drop, List.length_take]; rfl)) ?_; (with_reducible refine (lexer_Scan.calls kj42 ((a0 ++ (⟨#[32]⟩ : ByteArray)) ++ a1) t298 t299 t300 _ ?side1 A56.out).mono ?_); (case side1 => first | ((with_reducible repeat (first | exact HSHP.out | refine Shp.alloc ?_ _ | refine Shp.drewN ?_ _ | refine Shp.drew ?_)); done) | (with_reducible refine Shp.below HSHP.out ?_; repeat (first | (with_reducible first | exact HB.out | apply below_alloc | apply pw_below_drewN | apply below_drew1) | exact HB.out))); rintro e w62 ⟨v301, rfl, ho0, hb⟩; refine ⟨_, rfl, ?_⟩; have n0_ := Aside0.mk (Kd.R_elder' (by (with_reducible repeat (first | apply Kd.R_alloc | apply Kd.R_drewN | apply Kd.R_drew)); exact HO297.out) (Kd.R_base ho0) hb); have n1_ := Aside0.mk (Kd.R_lower (Kd.R_new' ho0 (Kd.R_lt (by (with_reducible repeat (first | apply Kd.R_alloc | apply Kd.R_drewN | apply Kd.R_drew)); exact HO297.out))) (below_size (by repeat (first | (with_reducible first | exact HB.out | apply below_alloc | apply pw_below_drewN | apply below_drew1) | exact HB.out)))); have n2_ := Aside0.mk (below_step (by repeat (first | (with_reducible first | exact HB.out | apply below_alloc | apply pw_below_drewN | apply below_drew1) | exact HB.out)) hb); clear HO297; clear HB; have HO297 := n0_; have HO302 := n1_; have HB := n2_; clear n0_ n1_ n2_; (try clear hb); (try clear hb2); (try clear hk); (try clear hi); (try clear ho0)) | ((with_reducible refine gate_callee (f := 10) rfl ?_); refine goesL_ (some 97) rfl rfl Try.func10 (by kernel_rfl) rfl #[] rfl (by (try simp only [List.map_toArray, List.map_cons, List.map_nil]); first | done | rfl | (simp only [List.length_drop, List.length_take]; rfl)) ?_; (with_reducible refine (selfstablaw04_awake.calls kj42  true _ ?side1 A57.out).mono ?_); (case side1 => first | ((with_reducible repeat (first | exact HSHP.out | refine Shp.alloc ?_ _ | refine Shp.drewN ?_ _ | refine Shp.drew ?_)); done) | (with_reducible refine Shp.below HSHP.out ?_; repeat (first | (with_reducible first | exact HB.out | apply below_alloc | apply pw_below_drewN | apply below_drew1) | exact HB.out))); rintro e w63 ⟨rfl, hb⟩; refine ⟨_, rfl, ?_⟩; have n0_ := Aside0.mk (Kd.R_below (by (with_reducible repeat (first | apply Kd.R_alloc | apply Kd.R_drewN | apply Kd.R_drew)); exact HO297.out) hb); have n1_ := Aside0.mk (Kd.R_below (by (with_reducible repeat (first | apply Kd.R_alloc | apply Kd.R_drewN | apply Kd.R_drew)); exact HO302.out) hb); have n2_ := Aside0.mk (below_step (by repeat (first | (with_reducible first | exact HB.out | apply below_alloc | apply pw_below_drewN | apply below_drew1) | exact HB.out)) hb); clear HO297; clear HO302; clear HB; have HO297 := n0_; have HO302 := n1_; have HB := n2_; clear n0_ n1_ n2_; (try clear hb); (try clear hb2); (try clear hk); (try clear hi)))
                              go_ret
                              exact ⟨by first | rfl | (simp [errW_none, errW_some] <;> rfl) | (simp [*, errW_none, errW_some] <;> rfl), by repeat (first | (with_reducible first | exact HB.out | apply below_alloc | apply pw_below_drewN | apply below_drew1) | exact HB.out)⟩
                            · rw [if_neg c60] at H
                              have c60b0 : (t300 == t278) = false := beq_eq_false_iff_ne.mpr c60
                              have c60b1 : (t300 != t278) = true := bne_iff_ne.mpr c60
                              obtain rfl := Option.some.inj H
                              go_wp2_with (first | ((with_reducible refine gate_callee (f := 11) rfl ?_); refine goesL_ (some 84) rfl rfl Try.func11 (by kernel_rfl) rfl #[.string (a0.extract 0 (t277 : Int).toNat)] rfl (by (try simp only [List.map_toArray, List.map_cons, List.map_nil]); first | done | rfl | (simp only [List.length_drop, List.length_take]; rfl)) ?_; (with_reducible refine (lexer_Scan.calls kj42 (a0.extract 0 (t277 : Int).toNat) t293 t294 t295 _ ?side1 A53.out).mono ?_); (case side1 => first | ((with_reducible repeat (first | exact HSHP.out | refine Shp.alloc ?_ _ | refine Shp.drewN ?_ _ | refine Shp.drew ?_)); done) | (with_reducible refine Shp.below HSHP.out ?_; repeat (first | (with_reducible first | exact HB.out | apply below_alloc | apply pw_below_drewN | apply below_drew1) | exact HB.out))); rintro e w64 ⟨v296, rfl, ho0, hb⟩; refine ⟨_, rfl, ?_⟩; have n0_ := Aside0.mk (Kd.R_lower ho0 (below_size (by repeat (first | (with_reducible first | exact HB.out | apply below_alloc | apply pw_below_drewN | apply below_drew1) | exact HB.out)))); have n1_ := Aside0.mk (below_step (by repeat (first | (with_reducible first | exact HB.out | apply below_alloc | apply pw_below_drewN | apply below_drew1) | exact HB.out)) hb); clear HB; have HO297 := n0_; have HB := n1_; clear n0_ n1_; (try clear hb); (try clear hb2); (try clear hk); (try clear hi); (try clear ho0)) | ((with_reducible refine gate_callee (f := 11) rfl ?_); refine goesL_ (some 93) rfl rfl Try.func11 (by kernel_rfl) rfl #[.string ((a0 ++ (⟨#[32]⟩ : ByteArray)) ++ a1)] rfl (by (try simp only [List.map_toArray, List.map_cons, List.map_nil]); first | done | rfl | (simp only [List.length_drop, List.length_take]; rfl)) ?_; (with_reducible refine (lexer_Scan.calls kj42 ((a0 ++ (⟨#[32]⟩ : ByteArray)) ++ a1) t298 t299 t300 _ ?side1 A56.out).mono ?_); (case side1 => first | ((with_reducible repeat (first | exact HSHP.out | refine Shp.alloc ?_ _ | refine Shp.drewN ?_ _ | refine Shp.drew ?_)); done) | (with_reducible refine Shp.below HSHP.out ?_; repeat (first | (with_reducible first | exact HB.out | apply below_alloc | apply pw_below_drewN | apply below_drew1) | exact HB.out))); rintro e w65 ⟨v301, rfl, ho0, hb⟩; refine ⟨_, rfl, ?_⟩; have n0_ := Aside0.mk (Kd.R_elder' (by (with_reducible repeat (first | apply Kd.R_alloc | apply Kd.R_drewN | apply Kd.R_drew)); exact HO297.out) (Kd.R_base ho0) hb); have n1_ := Aside0.mk (Kd.R_lower (Kd.R_new' ho0 (Kd.R_lt (by (with_reducible repeat (first | apply Kd.R_alloc | apply Kd.R_drewN | apply Kd.R_drew)); exact HO297.out))) (below_size (by repeat (first | (with_reducible first | exact HB.out | apply below_alloc | apply pw_below_drewN | apply below_drew1) | exact HB.out)))); have n2_ := Aside0.mk (below_step (by repeat (first | (with_reducible first | exact HB.out | apply below_alloc | apply pw_below_drewN | apply below_drew1) | exact HB.out)) hb); clear HO297; clear HB; have HO297 := n0_; have HO302 := n1_; have HB := n2_; clear n0_ n1_ n2_; (try clear hb); (try clear hb2); (try clear hk); (try clear hi); (try clear ho0)) | ((with_reducible refine gate_callee (f := 10) rfl ?_); refine goesL_ (some 97) rfl rfl Try.func10 (by kernel_rfl) rfl #[] rfl (by (try simp only [List.map_toArray, List.map_cons, List.map_nil]); first | done | rfl | (simp only [List.length_drop, List.length_take]; rfl)) ?_; (with_reducible refine (selfstablaw04_awake.calls kj42  true _ ?side1 A57.out).mono ?_); (case side1 => first | ((with_reducible repeat (first | exact HSHP.out | refine Shp.alloc ?_ _ | refine Shp.drewN ?_ _ | refine Shp.drew ?_)); done) | (with_reducible refine Shp.below HSHP.out ?_; repeat (first | (with_reducible first | exact HB.out | apply below_alloc | apply pw_below_drewN | apply below_drew1) | exact HB.out))); rintro e w66 ⟨rfl, hb⟩; refine ⟨_, rfl, ?_⟩; have n0_ := Aside0.mk (Kd.R_below (by (with_reducible repeat (first | apply Kd.R_alloc | apply Kd.R_drewN | apply Kd.R_drew)); exact HO297.out) hb); have n1_ := Aside0.mk (Kd.R_below (by (with_reducible repeat (first | apply Kd.R_alloc | apply Kd.R_drewN | apply Kd.R_drew)); exact HO302.out) hb); have n2_ := Aside0.mk (below_step (by repeat (first | (with_reducible first | exact HB.out | apply below_alloc | apply pw_below_drewN | apply below_drew1) | exact HB.out)) hb); clear HO297; clear HO302; clear HB; have HO297 := n0_; have HO302 := n1_; have HB := n2_; clear n0_ n1_ n2_; (try clear hb); (try clear hb2); (try clear hk); (try clear hi)))
                              go_ret
                              exact ⟨by first | rfl | (simp [errW_none, errW_some] <;> rfl) | (simp [*, errW_none, errW_some] <;> rfl), by repeat (first | (with_reducible first | exact HB.out | apply below_alloc | apply pw_below_drewN | apply below_drew1) | exact HB.out)⟩
                          · rw [if_neg c59] at H
                            have c59b0 : (t295 == 0) = false := beq_eq_false_iff_ne.mpr c59
                            have c59b1 : (t295 != 0) = true := bne_iff_ne.mpr c59
                            obtain rfl := Option.some.inj H
                            go_wp2_with (first | ((with_reducible refine gate_callee (f := 11) rfl ?_); refine goesL_ (some 84) rfl rfl Try.func11 (by kernel_rfl) rfl #[.string (a0.extract 0 (t277 : Int).toNat)] rfl (by (try simp only [List.map_toArray, List.map_cons, List.map_nil]); first | done | rfl | (simp only [List.length_drop, List.length_take]; rfl)) ?_; (with_reducible refine (lexer_Scan.calls kj42 (a0.extract 0 (t277 : Int).toNat) t293 t294 t295 _ ?side1 A53.out).mono ?_); (case side1 => first | ((with_reducible repeat (first | exact HSHP.out | refine Shp.alloc ?_ _ | refine Shp.drewN ?_ _ | refine Shp.drew ?_)); done) | (with_reducible refine Shp.below HSHP.out ?_; repeat (first | (with_reducible first | exact HB.out | apply below_alloc | apply pw_below_drewN | apply below_drew1) | exact HB.out))); rintro e w67 ⟨v296, rfl, ho0, hb⟩; refine ⟨_, rfl, ?_⟩; have n0_ := Aside0.mk (Kd.R_lower ho0 (below_size (by repeat (first | (with_reducible first | exact HB.out | apply below_alloc | apply pw_below_drewN | apply below_drew1) | exact HB.out)))); have n1_ := Aside0.mk (below_step (by repeat (first | (with_reducible first | exact HB.out | apply below_alloc | apply pw_below_drewN | apply below_drew1) | exact HB.out)) hb); clear HB; have HO297 := n0_; have HB := n1_; clear n0_ n1_; (try clear hb); (try clear hb2); (try clear hk); (try clear hi); (try clear ho0)) | ((with_reducible refine gate_callee (f := 11) rfl ?_); refine goesL_ (some 93) rfl rfl Try.func11 (by kernel_rfl) rfl #[.string ((a0 ++ (⟨#[32]⟩ : ByteArray)) ++ a1)] rfl (by (try simp only [List.map_toArray, List.map_cons, List.map_nil]); first | done | rfl | (simp only [List.length_drop, List.length_take]; rfl)) ?_; (with_reducible refine (lexer_Scan.calls kj42 ((a0 ++ (⟨#[32]⟩ : ByteArray)) ++ a1) t298 t299 t300 _ ?side1 A56.out).mono ?_); (case side1 => first | ((with_reducible repeat (first | exact HSHP.out | refine Shp.alloc ?_ _ | refine Shp.drewN ?_ _ | refine Shp.drew ?_)); done) | (with_reducible refine Shp.below HSHP.out ?_; repeat (first | (with_reducible first | exact HB.out | apply below_alloc | apply pw_below_drewN | apply below_drew1) | exact HB.out))); rintro e w68 ⟨v301, rfl, ho0, hb⟩; refine ⟨_, rfl, ?_⟩; have n0_ := Aside0.mk (Kd.R_elder' (by (with_reducible repeat (first | apply Kd.R_alloc | apply Kd.R_drewN | apply Kd.R_drew)); exact HO297.out) (Kd.R_base ho0) hb); have n1_ := Aside0.mk (Kd.R_lower (Kd.R_new' ho0 (Kd.R_lt (by (with_reducible repeat (first | apply Kd.R_alloc | apply Kd.R_drewN | apply Kd.R_drew)); exact HO297.out))) (below_size (by repeat (first | (with_reducible first | exact HB.out | apply below_alloc | apply pw_below_drewN | apply below_drew1) | exact HB.out)))); have n2_ := Aside0.mk (below_step (by repeat (first | (with_reducible first | exact HB.out | apply below_alloc | apply pw_below_drewN | apply below_drew1) | exact HB.out)) hb); clear HO297; clear HB; have HO297 := n0_; have HO302 := n1_; have HB := n2_; clear n0_ n1_ n2_; (try clear hb); (try clear hb2); (try clear hk); (try clear hi); (try clear ho0)) | ((with_reducible refine gate_callee (f := 10) rfl ?_); refine goesL_ (some 97) rfl rfl Try.func10 (by kernel_rfl) rfl #[] rfl (by (try simp only [List.map_toArray, List.map_cons, List.map_nil]); first | done | rfl | (simp only [List.length_drop, List.length_take]; rfl)) ?_; (with_reducible refine (selfstablaw04_awake.calls kj42  true _ ?side1 A57.out).mono ?_); (case side1 => first | ((with_reducible repeat (first | exact HSHP.out | refine Shp.alloc ?_ _ | refine Shp.drewN ?_ _ | refine Shp.drew ?_)); done) | (with_reducible refine Shp.below HSHP.out ?_; repeat (first | (with_reducible first | exact HB.out | apply below_alloc | apply pw_below_drewN | apply below_drew1) | exact HB.out))); rintro e w69 ⟨rfl, hb⟩; refine ⟨_, rfl, ?_⟩; have n0_ := Aside0.mk (Kd.R_below (by (with_reducible repeat (first | apply Kd.R_alloc | apply Kd.R_drewN | apply Kd.R_drew)); exact HO297.out) hb); have n1_ := Aside0.mk (Kd.R_below (by (with_reducible repeat (first | apply Kd.R_alloc | apply Kd.R_drewN | apply Kd.R_drew)); exact HO302.out) hb); have n2_ := Aside0.mk (below_step (by repeat (first | (with_reducible first | exact HB.out | apply below_alloc | apply pw_below_drewN | apply below_drew1) | exact HB.out)) hb); clear HO297; clear HO302; clear HB; have HO297 := n0_; have HO302 := n1_; have HB := n2_; clear n0_ n1_ n2_; (try clear hb); (try clear hb2); (try clear hk); (try clear hi)))
                            go_ret
                            exact ⟨by first | rfl | (simp [errW_none, errW_some] <;> rfl) | (simp [*, errW_none, errW_some] <;> rfl), by repeat (first | (with_reducible first | exact HB.out | apply below_alloc | apply pw_below_drewN | apply below_drew1) | exact HB.out)⟩
                        · replace c58 := Bool.eq_false_iff.mpr c58
                          subst c58
                          have H1 : (some false) = some r := by rw [if_neg (show ¬ (false = true) by decide)] at H; exact H
                          clear H
                          have H := H1
                          clear H1
                          obtain rfl := Option.some.inj H
                          go_wp2_with (first | ((with_reducible refine gate_callee (f := 11) rfl ?_); refine goesL_ (some 84) rfl rfl Try.func11 (by kernel_rfl) rfl #[.string (a0.extract 0 (t277 : Int).toNat)] rfl (by (try simp only [List.map_toArray, List.map_cons, List.map_nil]); first | done | rfl | (simp only [List.length_drop, List.length_take]; rfl)) ?_; (with_reducible refine (lexer_Scan.calls kj42 (a0.extract 0 (t277 : Int).toNat) t293 t294 t295 _ ?side1 A53.out).mono ?_); (case side1 => first | ((with_reducible repeat (first | exact HSHP.out | refine Shp.alloc ?_ _ | refine Shp.drewN ?_ _ | refine Shp.drew ?_)); done) | (with_reducible refine Shp.below HSHP.out ?_; repeat (first | (with_reducible first | exact HB.out | apply below_alloc | apply pw_below_drewN | apply below_drew1) | exact HB.out))); rintro e w70 ⟨v296, rfl, ho0, hb⟩; refine ⟨_, rfl, ?_⟩; have n0_ := Aside0.mk (Kd.R_lower ho0 (below_size (by repeat (first | (with_reducible first | exact HB.out | apply below_alloc | apply pw_below_drewN | apply below_drew1) | exact HB.out)))); have n1_ := Aside0.mk (below_step (by repeat (first | (with_reducible first | exact HB.out | apply below_alloc | apply pw_below_drewN | apply below_drew1) | exact HB.out)) hb); clear HB; have HO297 := n0_; have HB := n1_; clear n0_ n1_; (try clear hb); (try clear hb2); (try clear hk); (try clear hi); (try clear ho0)) | ((with_reducible refine gate_callee (f := 11) rfl ?_); refine goesL_ (some 93) rfl rfl Try.func11 (by kernel_rfl) rfl #[.string ((a0 ++ (⟨#[32]⟩ : ByteArray)) ++ a1)] rfl (by (try simp only [List.map_toArray, List.map_cons, List.map_nil]); first | done | rfl | (simp only [List.length_drop, List.length_take]; rfl)) ?_; (with_reducible refine (lexer_Scan.calls kj42 ((a0 ++ (⟨#[32]⟩ : ByteArray)) ++ a1) t298 t299 t300 _ ?side1 A56.out).mono ?_); (case side1 => first | ((with_reducible repeat (first | exact HSHP.out | refine Shp.alloc ?_ _ | refine Shp.drewN ?_ _ | refine Shp.drew ?_)); done) | (with_reducible refine Shp.below HSHP.out ?_; repeat (first | (with_reducible first | exact HB.out | apply below_alloc | apply pw_below_drewN | apply below_drew1) | exact HB.out))); rintro e w71 ⟨v301, rfl, ho0, hb⟩; refine ⟨_, rfl, ?_⟩; have n0_ := Aside0.mk (Kd.R_elder' (by (with_reducible repeat (first | apply Kd.R_alloc | apply Kd.R_drewN | apply Kd.R_drew)); exact HO297.out) (Kd.R_base ho0) hb); have n1_ := Aside0.mk (Kd.R_lower (Kd.R_new' ho0 (Kd.R_lt (by (with_reducible repeat (first | apply Kd.R_alloc | apply Kd.R_drewN | apply Kd.R_drew)); exact HO297.out))) (below_size (by repeat (first | (with_reducible first | exact HB.out | apply below_alloc | apply pw_below_drewN | apply below_drew1) | exact HB.out)))); have n2_ := Aside0.mk (below_step (by repeat (first | (with_reducible first | exact HB.out | apply below_alloc | apply pw_below_drewN | apply below_drew1) | exact HB.out)) hb); clear HO297; clear HB; have HO297 := n0_; have HO302 := n1_; have HB := n2_; clear n0_ n1_ n2_; (try clear hb); (try clear hb2); (try clear hk); (try clear hi); (try clear ho0)) | ((with_reducible refine gate_callee (f := 10) rfl ?_); refine goesL_ (some 97) rfl rfl Try.func10 (by kernel_rfl) rfl #[] rfl (by (try simp only [List.map_toArray, List.map_cons, List.map_nil]); first | done | rfl | (simp only [List.length_drop, List.length_take]; rfl)) ?_; (with_reducible refine (selfstablaw04_awake.calls kj42  false _ ?side1 A57.out).mono ?_); (case side1 => first | ((with_reducible repeat (first | exact HSHP.out | refine Shp.alloc ?_ _ | refine Shp.drewN ?_ _ | refine Shp.drew ?_)); done) | (with_reducible refine Shp.below HSHP.out ?_; repeat (first | (with_reducible first | exact HB.out | apply below_alloc | apply pw_below_drewN | apply below_drew1) | exact HB.out))); rintro e w72 ⟨rfl, hb⟩; refine ⟨_, rfl, ?_⟩; have n0_ := Aside0.mk (Kd.R_below (by (with_reducible repeat (first | apply Kd.R_alloc | apply Kd.R_drewN | apply Kd.R_drew)); exact HO297.out) hb); have n1_ := Aside0.mk (Kd.R_below (by (with_reducible repeat (first | apply Kd.R_alloc | apply Kd.R_drewN | apply Kd.R_drew)); exact HO302.out) hb); have n2_ := Aside0.mk (below_step (by repeat (first | (with_reducible first | exact HB.out | apply below_alloc | apply pw_below_drewN | apply below_drew1) | exact HB.out)) hb); clear HO297; clear HO302; clear HB; have HO297 := n0_; have HO302 := n1_; have HB := n2_; clear n0_ n1_ n2_; (try clear hb); (try clear hb2); (try clear hk); (try clear hi)))
                          go_ret
                          exact ⟨by first | rfl | (simp [errW_none, errW_some] <;> rfl) | (simp [*, errW_none, errW_some] <;> rfl), by repeat (first | (with_reducible first | exact HB.out | apply below_alloc | apply pw_below_drewN | apply below_drew1) | exact HB.out)⟩
                      · rw [if_neg c55] at H
                        exact absurd H (by simp)
                    · rw [if_neg c54] at H
                      exact absurd H (by simp)
                  · rw [if_neg c52] at H
                    exact absurd H (by simp)
                · rw [if_neg c51] at H
                  exact absurd H (by simp)

/-! ### lexer_while_at_lexer_letter: function 25 -/
mutual
def lexer_while_at_lexer_letter.l0 : Nat → ByteArray → Int → Option (Int)
  | 0, _, _ => none
  | k + 1, x0, x1 => if x1 < (x0.size : Int) then (if 0 ≤ x1 then ((lexer_letter.f (bt x0 x1)).bind fun t304 => (lexer_while_at_lexer_letter.j1 k x0 x1 t304)) else (none)) else (lexer_while_at_lexer_letter.j1 k x0 x1 false)
def lexer_while_at_lexer_letter.j1 : Nat → ByteArray → Int → Bool → Option (Int)
  | 0, _, _, _ => none
  | k + 1, x0, x1, x17 => if x17 = true then (lexer_while_at_lexer_letter.l0 k x0 (wrap64 (x1 + 1))) else (some x1)
end
def lexer_while_at_lexer_letter.f (k : Nat) (a0 : ByteArray) (a1 : Int)  : Option (Int) := lexer_while_at_lexer_letter.l0 k a0 a1
theorem lexer_while_at_lexer_letter.mono_l : ∀ k, (∀ y0 y1, LeO (lexer_while_at_lexer_letter.l0 k y0 y1) (lexer_while_at_lexer_letter.l0 (k + 1) y0 y1)) ∧ (∀ y0 y1 y2, LeO (lexer_while_at_lexer_letter.j1 k y0 y1 y2) (lexer_while_at_lexer_letter.j1 (k + 1) y0 y1 y2))
  | 0 => ⟨fun _ _ r h => by simp [lexer_while_at_lexer_letter.l0] at h, fun _ _ _ r h => by simp [lexer_while_at_lexer_letter.j1] at h⟩
  | k + 1 => by
    obtain ⟨ih0, ih1⟩ := lexer_while_at_lexer_letter.mono_l k
    refine ⟨?_, ?_⟩
    · intro y0 y1
      unfold lexer_while_at_lexer_letter.l0
      repeat' first
      | (with_reducible exact ih0 _ _)
      | (with_reducible exact ih1 _ _ _)
      | (with_reducible exact LeO.refl _)
      | (with_reducible exact LeO.none _)
      | (with_reducible refine LeO.ite ?_ ?_)
      | (with_reducible refine LeO.bind ?_ (fun _ => ?_))
      | exact ih0 _ _
      | exact ih1 _ _ _
      | exact LeO.none _
      | refine LeO.ite ?_ ?_
      | refine LeO.bind ?_ (fun _ => ?_)
    · intro y0 y1 y2
      unfold lexer_while_at_lexer_letter.j1
      repeat' first
      | (with_reducible exact ih0 _ _)
      | (with_reducible exact ih1 _ _ _)
      | (with_reducible exact LeO.refl _)
      | (with_reducible exact LeO.none _)
      | (with_reducible refine LeO.ite ?_ ?_)
      | (with_reducible refine LeO.bind ?_ (fun _ => ?_))
      | exact ih0 _ _
      | exact ih1 _ _ _
      | exact LeO.none _
      | refine LeO.ite ?_ ?_
      | refine LeO.bind ?_ (fun _ => ?_)
theorem lexer_while_at_lexer_letter.mono : ∀ a0 a1 k, LeO (lexer_while_at_lexer_letter.f k a0 a1) (lexer_while_at_lexer_letter.f (k + 1) a0 a1) := by
  intro a0 a1 k
  obtain ⟨ih0, ih1⟩ := lexer_while_at_lexer_letter.mono_l k
  unfold lexer_while_at_lexer_letter.f
  repeat' first
      | (with_reducible exact ih0 _ _)
      | (with_reducible exact ih1 _ _ _)
      | (with_reducible exact LeO.refl _)
      | (with_reducible exact LeO.none _)
      | (with_reducible refine LeO.ite ?_ ?_)
      | (with_reducible refine LeO.bind ?_ (fun _ => ?_))
      | exact ih0 _ _
      | exact ih1 _ _ _
      | exact LeO.none _
      | refine LeO.ite ?_ ?_
      | refine LeO.bind ?_ (fun _ => ?_)
set_option maxHeartbeats 6000000 in
set_option maxRecDepth 100000 in
theorem lexer_while_at_lexer_letter.calls (k : Nat) (a0 : ByteArray) (a1 : Int)  (r : Int) (w : World) (h : lexer_while_at_lexer_letter.f k a0 a1 = some r) :
    Calls Try.prog 25 #[.string a0, .int .i64 a1, .func (.func 26) #[] #[]] w fun e w' => e = .returned (.int .i64 r) ∧ Below w.heap.size w w' := by
  have HB := Aside0.mk (Below.refl w.heap.size w)
  have H : (lexer_while_at_lexer_letter.l0 k a0 a1) = some r := h
  clear h
  have H' := Aside0.mk H
  clear H
  go_enter Try.func25, Try.ntmps25
  go_wp2
  go_loopg [1] k (fun kq v1 w' => ∃ (x1_1 : Int), v1 = .int .i64 x1_1 ∧ Aside0 (lexer_while_at_lexer_letter.l0 kq a0 x1_1 = some r) ∧ Aside0 (kq ≤ k) ∧ Aside0 (Below w.heap.size w w'))
  case atStart => exact ⟨(a1), (by first | rfl | (simp; done) | (simp [*]; done)), H', ⟨Nat.le_refl _⟩, ⟨by repeat (first | (with_reducible first | exact HB.out | apply below_alloc | apply pw_below_drewN | apply below_drew1) | exact HB.out)⟩⟩
  case round =>
    clear H'
    try clear p2
    obtain ⟨x1_1, rfl, HA, HK1, HB⟩ := hrel
    cases gk with
    | zero => exact absurd HA.out (by simp [lexer_while_at_lexer_letter.l0])
    | succ k1 =>
      have H := HA.out
      clear HA
      simp only [lexer_while_at_lexer_letter.l0] at H
      have HC4 := Aside0.mk H
      clear H
      go_upto_region 1 with (fail)
      go_cut [17] (fun v17 wc => ∃ (kq : Nat) (x17_3 : Bool), v17 = .bool x17_3 ∧ Aside0 (lexer_while_at_lexer_letter.j1 kq a0 x1_1 x17_3 = some r) ∧ Aside0 (kq ≤ k1) ∧ Aside0 (Below w.heap.size w wc))
      case first =>
        have H := HC4.out
        clear HC4
        by_cases c5 : x1_1 < (a0.size : Int)
        · rw [if_pos c5] at H
          have c5b0 : decide (x1_1 < (a0.size : Int)) = true := decide_eq_true c5
          clear c5
          (first | rw [c5b0] | (simp only [i64_w, i32_w]; rw [c5b0]) | skip)
          by_cases c6 : 0 ≤ x1_1
          · rw [if_pos c6] at H
            have c6b0 : decide (0 ≤ x1_1) = true := decide_eq_true c6
            clear c6
            replace H := Option.bind_eq_some_iff.mp H
            obtain ⟨t304, A80, H⟩ := H
            replace H : (lexer_while_at_lexer_letter.j1 k1 a0 x1_1 t304) = some r := H
            have A8 := Aside0.mk A80
            clear A80
            have H' := Aside0.mk H
            clear H
            have p7 : 0 ≤ (x1_1 : Int) := of_decide_eq_true (by first | (with_reducible assumption) | assumption)
            have q7 : x1_1 < (a0.size : Int) := of_decide_eq_true (by first | (with_reducible assumption) | assumption)
            have hx7 := bt_at a0 x1_1
            replace p7 := eq_true p7
            replace q7 := eq_true q7
            go_wp2_with (first | (go_at_call 26; (with_reducible refine (lexer_letter.calls (bt a0 x1_1) t304 _ A8.out).mono ?_); rintro e w' ⟨rfl, ⟨nd, rfl⟩⟩))
            go_meet
            case rel => exact ⟨_, (t304), (by first | rfl | (simp; done) | (simp [*]; done)), H', ⟨by have := HK1.out; first | omega | exact Nat.le_refl _⟩, ⟨by repeat (first | (with_reducible first | exact HB.out | apply below_alloc | apply pw_below_drewN | apply below_drew1) | exact HB.out)⟩⟩
          · rw [if_neg c6] at H
            exact absurd H (by simp)
        · rw [if_neg c5] at H
          have c5b0 : decide (x1_1 < (a0.size : Int)) = false := decide_eq_false c5
          clear c5
          (first | rw [c5b0] | (simp only [i64_w, i32_w]; rw [c5b0]) | skip)
          have H' := Aside0.mk H
          clear H
          go_wp2
          go_meet
          case rel => exact ⟨_, (false), (by first | rfl | (simp; done) | (simp [*]; done)), H', ⟨by have := HK1.out; first | omega | exact Nat.le_refl _⟩, ⟨by repeat (first | (with_reducible first | exact HB.out | apply below_alloc | apply pw_below_drewN | apply below_drew1) | exact HB.out)⟩⟩
      case rest =>
        clear HC4
        try clear p2
        try clear c5
        try clear c5b0
        try clear c6
        try clear c6b0
        try clear c7
        try clear p7
        try clear q7
        try clear hx7
        try clear p2
        try clear p7
        try clear q7
        obtain ⟨kq, x17_3, rfl, HA, HJ3, HB⟩ := hcut
        cases kq with
        | zero => exact absurd HA.out (by simp [lexer_while_at_lexer_letter.j1])
        | succ kj3 =>
          have H := HA.out
          clear HA
          simp only [lexer_while_at_lexer_letter.j1] at H
          by_cases c9 : x17_3 = true
          · subst c9
            have H1 : (lexer_while_at_lexer_letter.l0 kj3 a0 (wrap64 (x1_1 + 1))) = some r := by rw [if_pos rfl] at H; exact H
            clear H
            have H := H1
            clear H1
            have H' := Aside0.mk H
            clear H
            go_wp2
            go_roundg kj3
            case measure => have := HK1.out; have := HJ3.out; omega
            case rel => exact ⟨(wrap64 (x1_1 + 1)), (by first | rfl | (simp; done) | (simp [*]; done)), H', ⟨by have := HK1.out; have := HJ3.out; omega⟩, ⟨by repeat (first | (with_reducible first | exact HB.out | apply below_alloc | apply pw_below_drewN | apply below_drew1) | exact HB.out)⟩⟩
          · replace c9 := Bool.eq_false_iff.mpr c9
            subst c9
            have H1 : (some x1_1) = some r := by rw [if_neg (show ¬ (false = true) by decide)] at H; exact H
            clear H
            have H := H1
            clear H1
            obtain rfl := Option.some.inj H
            go_wp2
            go_ret
            exact ⟨by first | rfl | (simp [errW_none, errW_some] <;> rfl) | (simp [*, errW_none, errW_some] <;> rfl), by repeat (first | (with_reducible first | exact HB.out | apply below_alloc | apply pw_below_drewN | apply below_drew1) | exact HB.out)⟩

/-! ### lexer_Reserved: function 17 -/
def lexer_Reserved.f (k : Nat) (a0 : ByteArray) : Option (Bool) := if a0.toList = ([] : List UInt8) then (some false) else ((lexer_while_at_lexer_letter.f k a0 0).bind fun t305 => (if t305 = (a0.size : Int) then (if 1 + a0.size ≤ 9223372036854775807 then (if ((⟨#[32]⟩ : ByteArray) ++ a0).size + 1 ≤ 9223372036854775807 then ((strings_Contains.f (⟨#[32, 112, 114, 111, 103, 114, 97, 109, 32, 118, 97, 114, 32, 114, 117, 108, 101, 32, 98, 111, 111, 108, 32, 112, 111, 114, 116, 32, 116, 114, 117, 101, 32, 102, 97, 108, 115, 101, 32, 110, 111, 110, 101, 32, 110, 32, 105, 100, 115, 32, 105, 100, 32, 100, 101, 103, 32, 114, 111, 111, 116, 32, 113, 32, 119, 101, 105, 103, 104, 116, 32, 98, 97, 99, 107, 32, 97, 108, 108, 32, 115, 111, 109, 101, 32, 99, 111, 117, 110, 116, 32, 102, 105, 114, 115, 116, 32, 109, 105, 110, 32, 109, 97, 120, 32, 115, 117, 109, 32, 109, 101, 120, 32, 115, 101, 99, 111, 110, 100, 32, 104, 101, 97, 100, 32]⟩ : ByteArray) (((⟨#[32]⟩ : ByteArray) ++ a0) ++ (⟨#[32]⟩ : ByteArray))).bind fun t306 => (some t306)) else (none)) else (none)) else (some false)))
theorem lexer_Reserved.mono : ∀ a0 k, LeO (lexer_Reserved.f k a0) (lexer_Reserved.f (k + 1) a0) := by
  intro a0 k
  unfold lexer_Reserved.f
  repeat' first
      | (with_reducible exact lexer_while_at_lexer_letter.mono _ _ _)
      | (with_reducible exact LeO.refl _)
      | (with_reducible exact LeO.none _)
      | (with_reducible refine LeO.ite ?_ ?_)
      | (with_reducible refine LeO.bind ?_ (fun _ => ?_))
      | exact lexer_while_at_lexer_letter.mono _ _ _
      | exact LeO.none _
      | refine LeO.ite ?_ ?_
      | refine LeO.bind ?_ (fun _ => ?_)
set_option maxHeartbeats 6000000 in
set_option maxRecDepth 100000 in
theorem lexer_Reserved.calls (k : Nat) (a0 : ByteArray) (r : Bool) (w : World) (hshp : Shp w) (h : lexer_Reserved.f k a0 = some r) :
    Calls Try.prog 17 #[.string a0] w fun e w' => e = .returned (.bool r) ∧ Below w.heap.size w w' := by
  have HSHP := Aside0.mk hshp
  clear hshp
  have HB := Aside0.mk (Below.refl w.heap.size w)
  have H : (if a0.toList = ([] : List UInt8) then (some false) else ((lexer_while_at_lexer_letter.f k a0 0).bind fun t305 => (if t305 = (a0.size : Int) then (if 1 + a0.size ≤ 9223372036854775807 then (if ((⟨#[32]⟩ : ByteArray) ++ a0).size + 1 ≤ 9223372036854775807 then ((strings_Contains.f (⟨#[32, 112, 114, 111, 103, 114, 97, 109, 32, 118, 97, 114, 32, 114, 117, 108, 101, 32, 98, 111, 111, 108, 32, 112, 111, 114, 116, 32, 116, 114, 117, 101, 32, 102, 97, 108, 115, 101, 32, 110, 111, 110, 101, 32, 110, 32, 105, 100, 115, 32, 105, 100, 32, 100, 101, 103, 32, 114, 111, 111, 116, 32, 113, 32, 119, 101, 105, 103, 104, 116, 32, 98, 97, 99, 107, 32, 97, 108, 108, 32, 115, 111, 109, 101, 32, 99, 111, 117, 110, 116, 32, 102, 105, 114, 115, 116, 32, 109, 105, 110, 32, 109, 97, 120, 32, 115, 117, 109, 32, 109, 101, 120, 32, 115, 101, 99, 111, 110, 100, 32, 104, 101, 97, 100, 32]⟩ : ByteArray) (((⟨#[32]⟩ : ByteArray) ++ a0) ++ (⟨#[32]⟩ : ByteArray))).bind fun t306 => (some t306)) else (none)) else (none)) else (some false)))) = some r := h
  clear h
  by_cases c2 : a0.toList = ([] : List UInt8)
  · rw [if_pos c2] at H
    have c2b0 : (a0.toList == ([] : List UInt8)) = true := beq_iff_eq.mpr c2
    have c2b1 : (a0.toList != ([] : List UInt8)) = false := bne_eq_false_iff_eq.mpr c2
    clear c2
    obtain rfl := Option.some.inj H
    go_enter Try.func17, Try.ntmps17
    go_wp2
    go_ret
    exact ⟨by first | rfl | (simp [errW_none, errW_some] <;> rfl) | (simp [*, errW_none, errW_some] <;> rfl), by repeat (first | (with_reducible first | exact HB.out | apply below_alloc | apply pw_below_drewN | apply below_drew1) | exact HB.out)⟩
  · rw [if_neg c2] at H
    have c2b0 : (a0.toList == ([] : List UInt8)) = false := beq_eq_false_iff_ne.mpr c2
    have c2b1 : (a0.toList != ([] : List UInt8)) = true := bne_iff_ne.mpr c2
    replace H := Option.bind_eq_some_iff.mp H
    obtain ⟨t305, A30, H⟩ := H
    replace H : (if t305 = (a0.size : Int) then (if 1 + a0.size ≤ 9223372036854775807 then (if ((⟨#[32]⟩ : ByteArray) ++ a0).size + 1 ≤ 9223372036854775807 then ((strings_Contains.f (⟨#[32, 112, 114, 111, 103, 114, 97, 109, 32, 118, 97, 114, 32, 114, 117, 108, 101, 32, 98, 111, 111, 108, 32, 112, 111, 114, 116, 32, 116, 114, 117, 101, 32, 102, 97, 108, 115, 101, 32, 110, 111, 110, 101, 32, 110, 32, 105, 100, 115, 32, 105, 100, 32, 100, 101, 103, 32, 114, 111, 111, 116, 32, 113, 32, 119, 101, 105, 103, 104, 116, 32, 98, 97, 99, 107, 32, 97, 108, 108, 32, 115, 111, 109, 101, 32, 99, 111, 117, 110, 116, 32, 102, 105, 114, 115, 116, 32, 109, 105, 110, 32, 109, 97, 120, 32, 115, 117, 109, 32, 109, 101, 120, 32, 115, 101, 99, 111, 110, 100, 32, 104, 101, 97, 100, 32]⟩ : ByteArray) (((⟨#[32]⟩ : ByteArray) ++ a0) ++ (⟨#[32]⟩ : ByteArray))).bind fun t306 => (some t306)) else (none)) else (none)) else (some false)) = some r := H
    have A3 := Aside0.mk A30
    clear A30
    by_cases c4 : t305 = (a0.size : Int)
    · rw [if_pos c4] at H
      have c4b0 : (t305 == (a0.size : Int)) = true := beq_iff_eq.mpr c4
      have c4b1 : (t305 != (a0.size : Int)) = false := bne_eq_false_iff_eq.mpr c4
      clear c4
      by_cases c5 : 1 + a0.size ≤ 9223372036854775807
      · rw [if_pos c5] at H
        have c5b0 := eq_true c5
        have c5b1 : decide (1 + a0.size ≤ 9223372036854775807) = true := decide_eq_true c5
        try have c5b2 : (9223372036854775807 < 1 + a0.size) = False := eq_false (Nat.not_lt.2 c5)
        by_cases c6 : ((⟨#[32]⟩ : ByteArray) ++ a0).size + 1 ≤ 9223372036854775807
        · rw [if_pos c6] at H
          have c6b0 := eq_true c6
          have c6b1 : decide (((⟨#[32]⟩ : ByteArray) ++ a0).size + 1 ≤ 9223372036854775807) = true := decide_eq_true c6
          try have c6b3 : (9223372036854775807 < 1 + a0.size + 1) = False := eq_false (by have h_ := c6; have hl0_ : (⟨#[32]⟩ : ByteArray).size = 1 := rfl; simp only [ByteArray.size_append, ByteArray.size_extract] at h_; omega)
          try have c6b2 : (9223372036854775807 < ((⟨#[32]⟩ : ByteArray) ++ a0).size + 1) = False := eq_false (Nat.not_lt.2 c6)
          replace H := Option.bind_eq_some_iff.mp H
          obtain ⟨t306, A70, H⟩ := H
          replace H : (some t306) = some r := H
          have A7 := Aside0.mk A70
          clear A70
          obtain rfl := Option.some.inj H
          go_enter Try.func17, Try.ntmps17
          go_wp2_with (first | (go_at_call 25; (with_reducible refine (lexer_while_at_lexer_letter.calls k a0 0  t305 _ A3.out).mono ?_); rintro e w8 ⟨rfl, hb⟩; have n0_ := Aside0.mk (below_step (by repeat (first | (with_reducible first | exact HB.out | apply below_alloc | apply pw_below_drewN | apply below_drew1) | exact HB.out)) hb); clear HB; have HB := n0_; clear n0_; (try clear hb); (try clear hb2); (try clear hk); (try clear hi)) | (go_at_call 27; (with_reducible refine (strings_Contains.calls (⟨#[32, 112, 114, 111, 103, 114, 97, 109, 32, 118, 97, 114, 32, 114, 117, 108, 101, 32, 98, 111, 111, 108, 32, 112, 111, 114, 116, 32, 116, 114, 117, 101, 32, 102, 97, 108, 115, 101, 32, 110, 111, 110, 101, 32, 110, 32, 105, 100, 115, 32, 105, 100, 32, 100, 101, 103, 32, 114, 111, 111, 116, 32, 113, 32, 119, 101, 105, 103, 104, 116, 32, 98, 97, 99, 107, 32, 97, 108, 108, 32, 115, 111, 109, 101, 32, 99, 111, 117, 110, 116, 32, 102, 105, 114, 115, 116, 32, 109, 105, 110, 32, 109, 97, 120, 32, 115, 117, 109, 32, 109, 101, 120, 32, 115, 101, 99, 111, 110, 100, 32, 104, 101, 97, 100, 32]⟩ : ByteArray) (((⟨#[32]⟩ : ByteArray) ++ a0) ++ (⟨#[32]⟩ : ByteArray)) t306 _ ?side1 A7.out).mono ?_); (case side1 => first | ((with_reducible repeat (first | exact HSHP.out | refine Shp.alloc ?_ _ | refine Shp.drewN ?_ _ | refine Shp.drew ?_)); done) | (with_reducible refine Shp.below HSHP.out ?_; repeat (first | (with_reducible first | exact HB.out | apply below_alloc | apply pw_below_drewN | apply below_drew1) | exact HB.out))); rintro e w' ⟨rfl, ⟨nd, rfl⟩⟩))
          go_ret
          exact ⟨by first | rfl | (simp [errW_none, errW_some] <;> rfl) | (simp [*, errW_none, errW_some] <;> rfl), by repeat (first | (with_reducible first | exact HB.out | apply below_alloc | apply pw_below_drewN | apply below_drew1) | exact HB.out)⟩
        · rw [if_neg c6] at H
          exact absurd H (by simp)
      · rw [if_neg c5] at H
        exact absurd H (by simp)
    · rw [if_neg c4] at H
      have c4b0 : (t305 == (a0.size : Int)) = false := beq_eq_false_iff_ne.mpr c4
      have c4b1 : (t305 != (a0.size : Int)) = true := bne_iff_ne.mpr c4
      obtain rfl := Option.some.inj H
      go_enter Try.func17, Try.ntmps17
      go_wp2_with (first | (go_at_call 25; (with_reducible refine (lexer_while_at_lexer_letter.calls k a0 0  t305 _ A3.out).mono ?_); rintro e w9 ⟨rfl, hb⟩; have n0_ := Aside0.mk (below_step (by repeat (first | (with_reducible first | exact HB.out | apply below_alloc | apply pw_below_drewN | apply below_drew1) | exact HB.out)) hb); clear HB; have HB := n0_; clear n0_; (try clear hb); (try clear hb2); (try clear hk); (try clear hi)))
      go_ret
      exact ⟨by first | rfl | (simp [errW_none, errW_some] <;> rfl) | (simp [*, errW_none, errW_some] <;> rfl), by repeat (first | (with_reducible first | exact HB.out | apply below_alloc | apply pw_below_drewN | apply below_drew1) | exact HB.out)⟩

end Go.Proofs.Ytanickojbgceaaa.P
