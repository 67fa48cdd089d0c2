-- made by a program of mine (wip/tools/pp.py over the kit's print)
import Derived.Test.YtanickojbgceaaaP0
import Derived.Test.YtanickojbgceaaaP4
import Derived.Test.YtanickojbgceaaaP8
import Derived.Test.YtanickojbgceaaaP12
namespace Go.Proofs.Ytanickojbgceaaa.P
open Go.RowKit Go.Proofs.YtanickojbgceaaaW.PrintWords Go.Proofs.YtanickojbgceaaaW.PrintLast Go.Proofs.YtanickojbgceaaaW.PrintMore
attribute [local go_sem] max2_int min2_int max_two min_two max_three min_three max_four min_four   -- for this text's walks alone
set_option linter.unusedVariables false
set_option linter.unusedSimpArgs false

/-! ### selfstablaw04_LexerIgnoresBlanks: function 7 -/
mutual
def selfstablaw04_LexerIgnoresBlanks.j0 : Nat → ByteArray → List Int → Bool → Option (Bool)
  | 0, _, _, _ => none
  | k + 1, x0, x1, x21 => if x21 = true then ((selfstablaw04_awake.f k).bind fun t248 => (some t248)) else ((selfstabref04_Scan.f k x0).bind fun bt249 => (selfstablaw04_LexerIgnoresBlanks.l0 k x0 x1 bt249.1 (⟨#[]⟩ : ByteArray) 0))
def selfstablaw04_LexerIgnoresBlanks.l0 : Nat → ByteArray → List Int → List (S32) → ByteArray → Int → Option (Bool)
  | 0, _, _, _, _, _ => none
  | k + 1, x0, x1, x5, x8, x9 => if x9 < (x5.length : Int) then (if 0 ≤ x9 then (if 0 ≤ ((rd_T32 x5 x9).f1) then (if ((rd_T32 x5 x9).f1) ≤ ((rd_T32 x5 x9).f2) then (if ((rd_T32 x5 x9).f2) ≤ (x0.size : Int) then ((selfstablaw04_blank.f x1 x9).bind fun t256 => (if (x0.extract (((rd_T32 x5 x9).f1) : Int).toNat (((rd_T32 x5 x9).f2) : Int).toNat).size + t256.size ≤ 9223372036854775807 then (if x8.size + ((x0.extract (((rd_T32 x5 x9).f1) : Int).toNat (((rd_T32 x5 x9).f2) : Int).toNat) ++ t256).size ≤ 9223372036854775807 then (selfstablaw04_LexerIgnoresBlanks.l0 k x0 x1 x5 (x8 ++ ((x0.extract (((rd_T32 x5 x9).f1) : Int).toNat (((rd_T32 x5 x9).f2) : Int).toNat) ++ t256)) (wrap64 (x9 + 1))) else (none)) else (none))) else (none)) else (none)) else (none)) else (none)) else ((lexer_Scan.f k x8).bind fun bt257 => (if bt257.2.2 = 0 then (selfstablaw04_LexerIgnoresBlanks.j2 k x0 x5 x8 bt257.1 ((bt257.1.length : Int) != (x5.length : Int))) else (selfstablaw04_LexerIgnoresBlanks.j2 k x0 x5 x8 bt257.1 true)))
def selfstablaw04_LexerIgnoresBlanks.j2 : Nat → ByteArray → List (S32) → ByteArray → List (S32) → Bool → Option (Bool)
  | 0, _, _, _, _, _ => none
  | k + 1, x0, x5, x8, x10, x67 => if x67 = true then (some false) else (selfstablaw04_LexerIgnoresBlanks.l1 k x0 x5 x8 x10 0)
def selfstablaw04_LexerIgnoresBlanks.l1 : Nat → ByteArray → List (S32) → ByteArray → List (S32) → Int → Option (Bool)
  | 0, _, _, _, _, _ => none
  | k + 1, x0, x5, x8, x10, x13 => if x13 < (x10.length : Int) then (if 0 ≤ x13 then (if x13 < (x5.length : Int) then (if ((rd_T32 x10 x13).f0) = ((rd_T32 x5 x13).f0) then (if ((rd_T32 x10 x13).f3) = ((rd_T32 x5 x13).f3) then (if ((rd_T32 x10 x13).f1) < 0 then (selfstablaw04_LexerIgnoresBlanks.j4 k x0 x5 x8 x10 x13 true) else (if ((rd_T32 x10 x13).f2) > (x8.size : Int) then (selfstablaw04_LexerIgnoresBlanks.j4 k x0 x5 x8 x10 x13 true) else (if ((rd_T32 x10 x13).f2) < ((rd_T32 x10 x13).f1) then (selfstablaw04_LexerIgnoresBlanks.j4 k x0 x5 x8 x10 x13 true) else (if 0 ≤ ((rd_T32 x10 x13).f1) then (if ((rd_T32 x10 x13).f1) ≤ ((rd_T32 x10 x13).f2) then (if ((rd_T32 x10 x13).f2) ≤ (x8.size : Int) then (if 0 ≤ ((rd_T32 x5 x13).f1) then (if ((rd_T32 x5 x13).f1) ≤ ((rd_T32 x5 x13).f2) then (if ((rd_T32 x5 x13).f2) ≤ (x0.size : Int) then (selfstablaw04_LexerIgnoresBlanks.j4 k x0 x5 x8 x10 x13 ((x8.extract (((rd_T32 x10 x13).f1) : Int).toNat (((rd_T32 x10 x13).f2) : Int).toNat).toList != (x0.extract (((rd_T32 x5 x13).f1) : Int).toNat (((rd_T32 x5 x13).f2) : Int).toNat).toList)) else (none)) else (none)) else (none)) else (none)) else (none)) else (none))))) else (selfstablaw04_LexerIgnoresBlanks.j4 k x0 x5 x8 x10 x13 true)) else (selfstablaw04_LexerIgnoresBlanks.j4 k x0 x5 x8 x10 x13 true)) else (none)) else (none)) else ((selfstablaw04_awake.f k).bind fun t262 => (some t262))
def selfstablaw04_LexerIgnoresBlanks.j4 : Nat → ByteArray → List (S32) → ByteArray → List (S32) → Int → Bool → Option (Bool)
  | 0, _, _, _, _, _, _ => none
  | k + 1, x0, x5, x8, x10, x13, x155 => if x155 = true then (some false) else (selfstablaw04_LexerIgnoresBlanks.l1 k x0 x5 x8 x10 (wrap64 (x13 + 1)))
end
def selfstablaw04_LexerIgnoresBlanks.f (k : Nat) (a0 : ByteArray) (l1 : List Int) : Option (Bool) := (selfstablaw04_fair.f k a0).bind fun t247 => (if t247 = true then (selfstablaw04_LexerIgnoresBlanks.j0 k a0 l1 (decide ((a0.size : Int) > 1000))) else (selfstablaw04_LexerIgnoresBlanks.j0 k a0 l1 true))
theorem selfstablaw04_LexerIgnoresBlanks.mono_l : ∀ k, (∀ y0 y1 y2, LeO (selfstablaw04_LexerIgnoresBlanks.j0 k y0 y1 y2) (selfstablaw04_LexerIgnoresBlanks.j0 (k + 1) y0 y1 y2)) ∧ (∀ y0 y1 y2 y3 y4, LeO (selfstablaw04_LexerIgnoresBlanks.l0 k y0 y1 y2 y3 y4) (selfstablaw04_LexerIgnoresBlanks.l0 (k + 1) y0 y1 y2 y3 y4)) ∧ (∀ y0 y1 y2 y3 y4, LeO (selfstablaw04_LexerIgnoresBlanks.j2 k y0 y1 y2 y3 y4) (selfstablaw04_LexerIgnoresBlanks.j2 (k + 1) y0 y1 y2 y3 y4)) ∧ (∀ y0 y1 y2 y3 y4, LeO (selfstablaw04_LexerIgnoresBlanks.l1 k y0 y1 y2 y3 y4) (selfstablaw04_LexerIgnoresBlanks.l1 (k + 1) y0 y1 y2 y3 y4)) ∧ (∀ y0 y1 y2 y3 y4 y5, LeO (selfstablaw04_LexerIgnoresBlanks.j4 k y0 y1 y2 y3 y4 y5) (selfstablaw04_LexerIgnoresBlanks.j4 (k + 1) y0 y1 y2 y3 y4 y5))
  | 0 => ⟨fun _ _ _ r h => by simp [selfstablaw04_LexerIgnoresBlanks.j0] at h, fun _ _ _ _ _ r h => by simp [selfstablaw04_LexerIgnoresBlanks.l0] at h, fun _ _ _ _ _ r h => by simp [selfstablaw04_LexerIgnoresBlanks.j2] at h, fun _ _ _ _ _ r h => by simp [selfstablaw04_LexerIgnoresBlanks.l1] at h, fun _ _ _ _ _ _ r h => by simp [selfstablaw04_LexerIgnoresBlanks.j4] at h⟩
  | k + 1 => by
    obtain ⟨ih0, ih1, ih2, ih3, ih4⟩ := selfstablaw04_LexerIgnoresBlanks.mono_l k
    refine ⟨?_, ?_, ?_, ?_, ?_⟩
    · intro y0 y1 y2
      unfold selfstablaw04_LexerIgnoresBlanks.j0
      repeat' first
      | (with_reducible exact ih0 _ _ _)
      | (with_reducible exact ih1 _ _ _ _ _)
      | (with_reducible exact ih2 _ _ _ _ _)
      | (with_reducible exact ih3 _ _ _ _ _)
      | (with_reducible exact ih4 _ _ _ _ _ _)
      | (with_reducible exact lexer_Scan.mono _ _)
      | (with_reducible exact selfstablaw04_awake.mono _)
      | (with_reducible exact selfstablaw04_fair.mono _ _)
      | (with_reducible exact selfstabref04_Scan.mono _ _)
      | (with_reducible exact LeO.refl _)
      | (with_reducible exact LeO.none _)
      | (with_reducible refine LeO.ite ?_ ?_)
      | (with_reducible refine LeO.bind ?_ (fun _ => ?_))
      | exact ih0 _ _ _
      | exact ih1 _ _ _ _ _
      | exact ih2 _ _ _ _ _
      | exact ih3 _ _ _ _ _
      | exact ih4 _ _ _ _ _ _
      | exact lexer_Scan.mono _ _
      | exact selfstablaw04_awake.mono _
      | exact selfstablaw04_fair.mono _ _
      | exact selfstabref04_Scan.mono _ _
      | exact LeO.none _
      | refine LeO.ite ?_ ?_
      | refine LeO.bind ?_ (fun _ => ?_)
    · intro y0 y1 y2 y3 y4
      unfold selfstablaw04_LexerIgnoresBlanks.l0
      repeat' first
      | (with_reducible exact ih0 _ _ _)
      | (with_reducible exact ih1 _ _ _ _ _)
      | (with_reducible exact ih2 _ _ _ _ _)
      | (with_reducible exact ih3 _ _ _ _ _)
      | (with_reducible exact ih4 _ _ _ _ _ _)
      | (with_reducible exact lexer_Scan.mono _ _)
      | (with_reducible exact selfstablaw04_awake.mono _)
      | (with_reducible exact selfstablaw04_fair.mono _ _)
      | (with_reducible exact selfstabref04_Scan.mono _ _)
      | (with_reducible exact LeO.refl _)
      | (with_reducible exact LeO.none _)
      | (with_reducible refine LeO.ite ?_ ?_)
      | (with_reducible refine LeO.bind ?_ (fun _ => ?_))
      | exact ih0 _ _ _
      | exact ih1 _ _ _ _ _
      | exact ih2 _ _ _ _ _
      | exact ih3 _ _ _ _ _
      | exact ih4 _ _ _ _ _ _
      | exact lexer_Scan.mono _ _
      | exact selfstablaw04_awake.mono _
      | exact selfstablaw04_fair.mono _ _
      | exact selfstabref04_Scan.mono _ _
      | exact LeO.none _
      | refine LeO.ite ?_ ?_
      | refine LeO.bind ?_ (fun _ => ?_)
    · intro y0 y1 y2 y3 y4
      unfold selfstablaw04_LexerIgnoresBlanks.j2
      repeat' first
      | (with_reducible exact ih0 _ _ _)
      | (with_reducible exact ih1 _ _ _ _ _)
      | (with_reducible exact ih2 _ _ _ _ _)
      | (with_reducible exact ih3 _ _ _ _ _)
      | (with_reducible exact ih4 _ _ _ _ _ _)
      | (with_reducible exact lexer_Scan.mono _ _)
      | (with_reducible exact selfstablaw04_awake.mono _)
      | (with_reducible exact selfstablaw04_fair.mono _ _)
      | (with_reducible exact selfstabref04_Scan.mono _ _)
      | (with_reducible exact LeO.refl _)
      | (with_reducible exact LeO.none _)
      | (with_reducible refine LeO.ite ?_ ?_)
      | (with_reducible refine LeO.bind ?_ (fun _ => ?_))
      | exact ih0 _ _ _
      | exact ih1 _ _ _ _ _
      | exact ih2 _ _ _ _ _
      | exact ih3 _ _ _ _ _
      | exact ih4 _ _ _ _ _ _
      | exact lexer_Scan.mono _ _
      | exact selfstablaw04_awake.mono _
      | exact selfstablaw04_fair.mono _ _
      | exact selfstabref04_Scan.mono _ _
      | exact LeO.none _
      | refine LeO.ite ?_ ?_
      | refine LeO.bind ?_ (fun _ => ?_)
    · intro y0 y1 y2 y3 y4
      unfold selfstablaw04_LexerIgnoresBlanks.l1
      repeat' first
      | (with_reducible exact ih0 _ _ _)
      | (with_reducible exact ih1 _ _ _ _ _)
      | (with_reducible exact ih2 _ _ _ _ _)
      | (with_reducible exact ih3 _ _ _ _ _)
      | (with_reducible exact ih4 _ _ _ _ _ _)
      | (with_reducible exact lexer_Scan.mono _ _)
      | (with_reducible exact selfstablaw04_awake.mono _)
      | (with_reducible exact selfstablaw04_fair.mono _ _)
      | (with_reducible exact selfstabref04_Scan.mono _ _)
      | (with_reducible exact LeO.refl _)
      | (with_reducible exact LeO.none _)
      | (with_reducible refine LeO.ite ?_ ?_)
      | (with_reducible refine LeO.bind ?_ (fun _ => ?_))
      | exact ih0 _ _ _
      | exact ih1 _ _ _ _ _
      | exact ih2 _ _ _ _ _
      | exact ih3 _ _ _ _ _
      | exact ih4 _ _ _ _ _ _
      | exact lexer_Scan.mono _ _
      | exact selfstablaw04_awake.mono _
      | exact selfstablaw04_fair.mono _ _
      | exact selfstabref04_Scan.mono _ _
      | exact LeO.none _
      | refine LeO.ite ?_ ?_
      | refine LeO.bind ?_ (fun _ => ?_)
    · intro y0 y1 y2 y3 y4 y5
      unfold selfstablaw04_LexerIgnoresBlanks.j4
      repeat' first
      | (with_reducible exact ih0 _ _ _)
      | (with_reducible exact ih1 _ _ _ _ _)
      | (with_reducible exact ih2 _ _ _ _ _)
      | (with_reducible exact ih3 _ _ _ _ _)
      | (with_reducible exact ih4 _ _ _ _ _ _)
      | (with_reducible exact lexer_Scan.mono _ _)
      | (with_reducible exact selfstablaw04_awake.mono _)
      | (with_reducible exact selfstablaw04_fair.mono _ _)
      | (with_reducible exact selfstabref04_Scan.mono _ _)
      | (with_reducible exact LeO.refl _)
      | (with_reducible exact LeO.none _)
      | (with_reducible refine LeO.ite ?_ ?_)
      | (with_reducible refine LeO.bind ?_ (fun _ => ?_))
      | exact ih0 _ _ _
      | exact ih1 _ _ _ _ _
      | exact ih2 _ _ _ _ _
      | exact ih3 _ _ _ _ _
      | exact ih4 _ _ _ _ _ _
      | exact lexer_Scan.mono _ _
      | exact selfstablaw04_awake.mono _
      | exact selfstablaw04_fair.mono _ _
      | exact selfstabref04_Scan.mono _ _
      | exact LeO.none _
      | refine LeO.ite ?_ ?_
      | refine LeO.bind ?_ (fun _ => ?_)
theorem selfstablaw04_LexerIgnoresBlanks.mono : ∀ a0 a1 k, LeO (selfstablaw04_LexerIgnoresBlanks.f k a0 a1) (selfstablaw04_LexerIgnoresBlanks.f (k + 1) a0 a1) := by
  intro a0 a1 k
  obtain ⟨ih0, ih1, ih2, ih3, ih4⟩ := selfstablaw04_LexerIgnoresBlanks.mono_l k
  unfold selfstablaw04_LexerIgnoresBlanks.f
  repeat' first
      | (with_reducible exact ih0 _ _ _)
      | (with_reducible exact ih1 _ _ _ _ _)
      | (with_reducible exact ih2 _ _ _ _ _)
      | (with_reducible exact ih3 _ _ _ _ _)
      | (with_reducible exact ih4 _ _ _ _ _ _)
      | (with_reducible exact lexer_Scan.mono _ _)
      | (with_reducible exact selfstablaw04_awake.mono _)
      | (with_reducible exact selfstablaw04_fair.mono _ _)
      | (with_reducible exact selfstabref04_Scan.mono _ _)
      | (with_reducible exact LeO.refl _)
      | (with_reducible exact LeO.none _)
      | (with_reducible refine LeO.ite ?_ ?_)
      | (with_reducible refine LeO.bind ?_ (fun _ => ?_))
      | exact ih0 _ _ _
      | exact ih1 _ _ _ _ _
      | exact ih2 _ _ _ _ _
      | exact ih3 _ _ _ _ _
      | exact ih4 _ _ _ _ _ _
      | exact lexer_Scan.mono _ _
      | exact selfstablaw04_awake.mono _
      | exact selfstablaw04_fair.mono _ _
      | exact selfstabref04_Scan.mono _ _
      | exact LeO.none _
      | refine LeO.ite ?_ ?_
      | refine LeO.bind ?_ (fun _ => ?_)
set_option maxHeartbeats 6000000 in
set_option maxRecDepth 100000 in
theorem selfstablaw04_LexerIgnoresBlanks.calls (k : Nat) (a0 : ByteArray) (A1 : Option Addr) (c1 : Nat) (l1 : List Int) (r : Bool) (w : World) (hshp : Shp w) (hr1 : Kd.C (Kd.int .u8) w A1 l1.length l1) (hc1 : l1.length ≤ c1) (h : selfstablaw04_LexerIgnoresBlanks.f k a0 l1 = some r) :
    Calls Try.prog 7 #[.string a0, .slice A1 l1.length c1] w fun e w' => e = .returned (.bool r) ∧ Below w.heap.size w w' := by
  have HR1 := Aside0.mk hr1
  have HC1 := Aside0.mk hc1
  clear hr1 hc1
  have HSHP := Aside0.mk hshp
  clear hshp
  have HB := Aside0.mk (Below.refl w.heap.size w)
  have H : ((selfstablaw04_fair.f k a0).bind fun t247 => (if t247 = true then (selfstablaw04_LexerIgnoresBlanks.j0 k a0 l1 (decide ((a0.size : Int) > 1000))) else (selfstablaw04_LexerIgnoresBlanks.j0 k a0 l1 true))) = some r := h
  clear h
  have HC3 := Aside0.mk H
  clear H
  go_enter Try.func7, Try.ntmps7
  go_upto_region 1 with (fail)
  (try simp only [List.append_eq, List.cons_append, List.nil_append])
  repeat (go_quiet (fail); go_upto_region 1 with (fail))
  go_cut [21] (fun v21 wc => ∃ (kq : Nat) (x21_2 : Bool), v21 = .bool x21_2 ∧ Aside0 (selfstablaw04_LexerIgnoresBlanks.j0 kq a0 l1 x21_2 = some r) ∧ Aside0 (kq ≤ k) ∧ Aside0 (Below w.heap.size w wc))
  case first =>
    have H := HC3.out
    clear HC3
    replace H := Option.bind_eq_some_iff.mp H
    obtain ⟨t247, A40, H⟩ := H
    replace H : (if t247 = true then (selfstablaw04_LexerIgnoresBlanks.j0 k a0 l1 (decide ((a0.size : Int) > 1000))) else (selfstablaw04_LexerIgnoresBlanks.j0 k a0 l1 true)) = some r := H
    have A4 := Aside0.mk A40
    clear A40
    by_cases c5 : t247 = true
    · subst c5
      have H1 : (selfstablaw04_LexerIgnoresBlanks.j0 k a0 l1 (decide ((a0.size : Int) > 1000))) = some r := by rw [if_pos rfl] at H; exact H
      clear H
      have H := H1
      clear H1
      have H' := Aside0.mk H
      clear H
      as_aux_lemma =>
        go_wp2_with (first | (go_at_call 14; (with_reducible refine (selfstablaw04_fair.calls k a0 true _ A4.out).mono ?_); rintro e w6 ⟨rfl, hb⟩; have n0_ := Aside0.mk (below_step (by repeat (first | (with_reducible first | exact HB.out | apply below_alloc | apply pw_below_drewN | apply below_drew1) | exact HB.out)) hb); clear HB; have HB := n0_; clear n0_; (try clear hb); (try clear hb2); (try clear hk); (try clear hi)))
        (try simp only [List.append_eq, List.cons_append, List.nil_append])
        repeat (go_quiet (first | (go_at_call 14; (with_reducible refine (selfstablaw04_fair.calls k a0 true _ A4.out).mono ?_); rintro e w6 ⟨rfl, hb⟩; have n0_ := Aside0.mk (below_step (by repeat (first | (with_reducible first | exact HB.out | apply below_alloc | apply pw_below_drewN | apply below_drew1) | exact HB.out)) hb); clear HB; have HB := n0_; clear n0_; (try clear hb); (try clear hb2); (try clear hk); (try clear hi))); try go_wp2_with (first | (go_at_call 14; (with_reducible refine (selfstablaw04_fair.calls k a0 true _ A4.out).mono ?_); rintro e w6 ⟨rfl, hb⟩; have n0_ := Aside0.mk (below_step (by repeat (first | (with_reducible first | exact HB.out | apply below_alloc | apply pw_below_drewN | apply below_drew1) | exact HB.out)) hb); clear HB; have HB := n0_; clear n0_; (try clear hb); (try clear hb2); (try clear hk); (try clear hi))))
        go_meet
        case rel => exact ⟨_, (decide ((a0.size : Int) > 1000)), (by first | rfl | (simp; done) | (simp [*]; done)), H', ⟨by first | omega | exact Nat.le_refl _⟩, ⟨by repeat (first | (with_reducible first | exact HB.out | apply below_alloc | apply pw_below_drewN | apply below_drew1) | exact HB.out)⟩⟩
    · replace c5 := Bool.eq_false_iff.mpr c5
      subst c5
      have H1 : (selfstablaw04_LexerIgnoresBlanks.j0 k a0 l1 true) = some r := by rw [if_neg (show ¬ (false = true) by decide)] at H; exact H
      clear H
      have H := H1
      clear H1
      have H' := Aside0.mk H
      clear H
      as_aux_lemma =>
        go_wp2_with (first | (go_at_call 14; (with_reducible refine (selfstablaw04_fair.calls k a0 false _ A4.out).mono ?_); rintro e w7 ⟨rfl, hb⟩; have n0_ := Aside0.mk (below_step (by repeat (first | (with_reducible first | exact HB.out | apply below_alloc | apply pw_below_drewN | apply below_drew1) | exact HB.out)) hb); clear HB; have HB := n0_; clear n0_; (try clear hb); (try clear hb2); (try clear hk); (try clear hi)))
        (try simp only [List.append_eq, List.cons_append, List.nil_append])
        repeat (go_quiet (first | (go_at_call 14; (with_reducible refine (selfstablaw04_fair.calls k a0 false _ A4.out).mono ?_); rintro e w7 ⟨rfl, hb⟩; have n0_ := Aside0.mk (below_step (by repeat (first | (with_reducible first | exact HB.out | apply below_alloc | apply pw_below_drewN | apply below_drew1) | exact HB.out)) hb); clear HB; have HB := n0_; clear n0_; (try clear hb); (try clear hb2); (try clear hk); (try clear hi))); try go_wp2_with (first | (go_at_call 14; (with_reducible refine (selfstablaw04_fair.calls k a0 false _ A4.out).mono ?_); rintro e w7 ⟨rfl, hb⟩; have n0_ := Aside0.mk (below_step (by repeat (first | (with_reducible first | exact HB.out | apply below_alloc | apply pw_below_drewN | apply below_drew1) | exact HB.out)) hb); clear HB; have HB := n0_; clear n0_; (try clear hb); (try clear hb2); (try clear hk); (try clear hi))))
        go_meet
        case rel => exact ⟨_, (true), (by first | rfl | (simp; done) | (simp [*]; done)), H', ⟨by first | omega | exact Nat.le_refl _⟩, ⟨by repeat (first | (with_reducible first | exact HB.out | apply below_alloc | apply pw_below_drewN | apply below_drew1) | exact HB.out)⟩⟩
  case rest =>
    clear HC3
    try clear c1
    try clear p2
    try clear c5
    try clear c7
    obtain ⟨kq, x21_2, rfl, HA, HJ2, HB⟩ := hcut
    cases kq with
    | zero => exact absurd HA.out (by simp [selfstablaw04_LexerIgnoresBlanks.j0])
    | succ kj2 =>
      have H := HA.out
      clear HA
      simp only [selfstablaw04_LexerIgnoresBlanks.j0] at H
      by_cases c8 : x21_2 = true
      · subst c8
        have H1 : ((selfstablaw04_awake.f kj2).bind fun t248 => (some t248)) = some r := by rw [if_pos rfl] at H; exact H
        clear H
        have H := H1
        clear H1
        replace H := Option.bind_eq_some_iff.mp H
        obtain ⟨t248, A90, H⟩ := H
        replace H : (some t248) = some r := H
        have A9 := Aside0.mk A90
        clear A90
        obtain rfl := Option.some.inj H
        as_aux_lemma =>
          go_wp2_with (first | (go_at_call 10; (with_reducible refine (selfstablaw04_awake.calls kj2  t248 _ ?side1 A9.out).mono ?_); (case side1 => first | ((with_reducible repeat (first | exact HSHP.out | refine Shp.alloc ?_ _ | refine Shp.drewN ?_ _ | refine Shp.drew ?_)); done) | (with_reducible refine Shp.below HSHP.out ?_; repeat (first | (with_reducible first | exact HB.out | apply below_alloc | apply pw_below_drewN | apply below_drew1) | exact HB.out))); rintro e w10 ⟨rfl, hb⟩; have n0_ := Aside0.mk (below_step (by repeat (first | (with_reducible first | exact HB.out | apply below_alloc | apply pw_below_drewN | apply below_drew1) | exact HB.out)) hb); clear HB; have HB := n0_; clear n0_; (try clear hb); (try clear hb2); (try clear hk); (try clear hi)))
          (try simp only [List.append_eq, List.cons_append, List.nil_append])
          repeat (go_quiet (first | (go_at_call 10; (with_reducible refine (selfstablaw04_awake.calls kj2  t248 _ ?side1 A9.out).mono ?_); (case side1 => first | ((with_reducible repeat (first | exact HSHP.out | refine Shp.alloc ?_ _ | refine Shp.drewN ?_ _ | refine Shp.drew ?_)); done) | (with_reducible refine Shp.below HSHP.out ?_; repeat (first | (with_reducible first | exact HB.out | apply below_alloc | apply pw_below_drewN | apply below_drew1) | exact HB.out))); rintro e w10 ⟨rfl, hb⟩; have n0_ := Aside0.mk (below_step (by repeat (first | (with_reducible first | exact HB.out | apply below_alloc | apply pw_below_drewN | apply below_drew1) | exact HB.out)) hb); clear HB; have HB := n0_; clear n0_; (try clear hb); (try clear hb2); (try clear hk); (try clear hi))); try go_wp2_with (first | (go_at_call 10; (with_reducible refine (selfstablaw04_awake.calls kj2  t248 _ ?side1 A9.out).mono ?_); (case side1 => first | ((with_reducible repeat (first | exact HSHP.out | refine Shp.alloc ?_ _ | refine Shp.drewN ?_ _ | refine Shp.drew ?_)); done) | (with_reducible refine Shp.below HSHP.out ?_; repeat (first | (with_reducible first | exact HB.out | apply below_alloc | apply pw_below_drewN | apply below_drew1) | exact HB.out))); rintro e w10 ⟨rfl, hb⟩; have n0_ := Aside0.mk (below_step (by repeat (first | (with_reducible first | exact HB.out | apply below_alloc | apply pw_below_drewN | apply below_drew1) | exact HB.out)) hb); clear HB; have HB := n0_; clear n0_; (try clear hb); (try clear hb2); (try clear hk); (try clear hi))))
          go_ret
          exact ⟨by first | rfl | (simp [errW_none, errW_some] <;> rfl) | (simp [*, errW_none, errW_some] <;> rfl), by repeat (first | (with_reducible first | exact HB.out | apply below_alloc | apply pw_below_drewN | apply below_drew1) | exact HB.out)⟩
      · replace c8 := Bool.eq_false_iff.mpr c8
        subst c8
        have H1 : ((selfstabref04_Scan.f kj2 a0).bind fun bt249 => (selfstablaw04_LexerIgnoresBlanks.l0 kj2 a0 l1 bt249.1 (⟨#[]⟩ : ByteArray) 0)) = some r := by rw [if_neg (show ¬ (false = true) by decide)] at H; exact H
        clear H
        have H := H1
        clear H1
        replace H := Option.bind_eq_some_iff.mp H
        obtain ⟨⟨t249, t250, t251⟩, A110, H⟩ := H
        replace H : (selfstablaw04_LexerIgnoresBlanks.l0 kj2 a0 l1 t249 (⟨#[]⟩ : ByteArray) 0) = some r := H
        have A11 := Aside0.mk A110
        clear A110
        have H' := Aside0.mk H
        clear H
        go_wp2_with (first | (go_at_call 12; (with_reducible refine (selfstabref04_Scan.calls kj2 a0 t249 t250 t251 _ A11.out).mono ?_); rintro e w12 ⟨v252, rfl, ho0, hb⟩; have n0_ := Aside0.mk (Kd.R_lower ho0 (below_size (by repeat (first | (with_reducible first | exact HB.out | apply below_alloc | apply pw_below_drewN | apply below_drew1) | exact HB.out)))); have n1_ := Aside0.mk (below_step (by repeat (first | (with_reducible first | exact HB.out | apply below_alloc | apply pw_below_drewN | apply below_drew1) | exact HB.out)) hb); clear HB; have HO253 := n0_; have HB := n1_; clear n0_ n1_; (try clear hb); (try clear hb2); (try clear hk); (try clear hi); (try clear ho0)))
        (try simp only [List.append_eq, List.cons_append, List.nil_append])
        repeat (go_quiet (first | (go_at_call 12; (with_reducible refine (selfstabref04_Scan.calls kj2 a0 t249 t250 t251 _ A11.out).mono ?_); rintro e w12 ⟨v252, rfl, ho0, hb⟩; have n0_ := Aside0.mk (Kd.R_lower ho0 (below_size (by repeat (first | (with_reducible first | exact HB.out | apply below_alloc | apply pw_below_drewN | apply below_drew1) | exact HB.out)))); have n1_ := Aside0.mk (below_step (by repeat (first | (with_reducible first | exact HB.out | apply below_alloc | apply pw_below_drewN | apply below_drew1) | exact HB.out)) hb); clear HB; have HO253 := n0_; have HB := n1_; clear n0_ n1_; (try clear hb); (try clear hb2); (try clear hk); (try clear hi); (try clear ho0))); try go_wp2_with (first | (go_at_call 12; (with_reducible refine (selfstabref04_Scan.calls kj2 a0 t249 t250 t251 _ A11.out).mono ?_); rintro e w12 ⟨v252, rfl, ho0, hb⟩; have n0_ := Aside0.mk (Kd.R_lower ho0 (below_size (by repeat (first | (with_reducible first | exact HB.out | apply below_alloc | apply pw_below_drewN | apply below_drew1) | exact HB.out)))); have n1_ := Aside0.mk (below_step (by repeat (first | (with_reducible first | exact HB.out | apply below_alloc | apply pw_below_drewN | apply below_drew1) | exact HB.out)) hb); clear HB; have HO253 := n0_; have HB := n1_; clear n0_ n1_; (try clear hb); (try clear hb2); (try clear hk); (try clear hi); (try clear ho0))))
        go_loopg [8, 9] kj2 (fun kq v8 v9 w' => ∃ (x8_2 : ByteArray) (x9_2 : Int), v8 = .string x8_2 ∧ v9 = .int .i64 x9_2 ∧ Aside0 (selfstablaw04_LexerIgnoresBlanks.l0 kq a0 l1 t249 x8_2 x9_2 = some r) ∧ Aside0 (kq ≤ kj2) ∧ Aside0 (Kd.R k32 32 w' w.heap.size (fun _ => True) v252 t249) ∧ Aside0 (Below w.heap.size w w'))
        case atStart => exact ⟨((⟨#[]⟩ : ByteArray)), (0), (by first | rfl | (simp; done) | (simp [*]; done)), (by first | rfl | (simp; done) | (simp [*]; done)), H', ⟨Nat.le_refl _⟩, ⟨by (with_reducible repeat (first | apply Kd.R_alloc | apply Kd.R_drewN | apply Kd.R_drew)); exact HO253.out⟩, ⟨by repeat (first | (with_reducible first | exact HB.out | apply below_alloc | apply pw_below_drewN | apply below_drew1) | exact HB.out)⟩⟩
        case round =>
          clear H'
          try clear c1
          try clear p2
          try clear c5
          try clear c7
          try clear c8
          try clear p2
          obtain ⟨x8_2, x9_2, rfl, rfl, HA, HK2, HO_5, HB⟩ := hrel
          cases gk with
          | zero => exact absurd HA.out (by simp [selfstablaw04_LexerIgnoresBlanks.l0])
          | succ k2 =>
            have H := HA.out
            clear HA
            simp only [selfstablaw04_LexerIgnoresBlanks.l0] at H
            by_cases c13 : x9_2 < (t249.length : Int)
            · rw [if_pos c13] at H
              have c13b0 : decide (x9_2 < (t249.length : Int)) = true := decide_eq_true c13
              clear c13
              by_cases c14 : 0 ≤ x9_2
              · rw [if_pos c14] at H
                have c14b0 : decide (0 ≤ x9_2) = true := decide_eq_true c14
                clear c14
                by_cases c15 : 0 ≤ ((rd_T32 t249 x9_2).f1)
                · rw [if_pos c15] at H
                  have c15b0 := eq_true c15
                  have c15b1 : decide (0 ≤ ((rd_T32 t249 x9_2).f1)) = true := decide_eq_true c15
                  clear c15
                  by_cases c16 : ((rd_T32 t249 x9_2).f1) ≤ ((rd_T32 t249 x9_2).f2)
                  · rw [if_pos c16] at H
                    have c16b0 := eq_true c16
                    have c16b1 : decide (((rd_T32 t249 x9_2).f1) ≤ ((rd_T32 t249 x9_2).f2)) = true := decide_eq_true c16
                    clear c16
                    by_cases c17 : ((rd_T32 t249 x9_2).f2) ≤ (a0.size : Int)
                    · rw [if_pos c17] at H
                      have c17b0 := eq_true c17
                      have c17b1 : decide (((rd_T32 t249 x9_2).f2) ≤ (a0.size : Int)) = true := decide_eq_true c17
                      clear c17
                      replace H := Option.bind_eq_some_iff.mp H
                      obtain ⟨t256, A180, H⟩ := H
                      replace H : (if (a0.extract (((rd_T32 t249 x9_2).f1) : Int).toNat (((rd_T32 t249 x9_2).f2) : Int).toNat).size + t256.size ≤ 9223372036854775807 then (if x8_2.size + ((a0.extract (((rd_T32 t249 x9_2).f1) : Int).toNat (((rd_T32 t249 x9_2).f2) : Int).toNat) ++ t256).size ≤ 9223372036854775807 then (selfstablaw04_LexerIgnoresBlanks.l0 k2 a0 l1 t249 (x8_2 ++ ((a0.extract (((rd_T32 t249 x9_2).f1) : Int).toNat (((rd_T32 t249 x9_2).f2) : Int).toNat) ++ t256)) (wrap64 (x9_2 + 1))) else (none)) else (none)) = some r := H
                      have A18 := Aside0.mk A180
                      clear A180
                      by_cases c19 : (a0.extract (((rd_T32 t249 x9_2).f1) : Int).toNat (((rd_T32 t249 x9_2).f2) : Int).toNat).size + t256.size ≤ 9223372036854775807
                      · rw [if_pos c19] at H
                        have c19b0 := eq_true c19
                        have c19b1 : decide ((a0.extract (((rd_T32 t249 x9_2).f1) : Int).toNat (((rd_T32 t249 x9_2).f2) : Int).toNat).size + t256.size ≤ 9223372036854775807) = true := decide_eq_true c19
                        try have c19b2 : (9223372036854775807 < (a0.extract (((rd_T32 t249 x9_2).f1) : Int).toNat (((rd_T32 t249 x9_2).f2) : Int).toNat).size + t256.size) = False := eq_false (Nat.not_lt.2 c19)
                        by_cases c20 : x8_2.size + ((a0.extract (((rd_T32 t249 x9_2).f1) : Int).toNat (((rd_T32 t249 x9_2).f2) : Int).toNat) ++ t256).size ≤ 9223372036854775807
                        · rw [if_pos c20] at H
                          have c20b0 := eq_true c20
                          have c20b1 : decide (x8_2.size + ((a0.extract (((rd_T32 t249 x9_2).f1) : Int).toNat (((rd_T32 t249 x9_2).f2) : Int).toNat) ++ t256).size ≤ 9223372036854775807) = true := decide_eq_true c20
                          try have c20b2 : (9223372036854775807 < x8_2.size + ((a0.extract (((rd_T32 t249 x9_2).f1) : Int).toNat (((rd_T32 t249 x9_2).f2) : Int).toNat) ++ t256).size) = False := eq_false (Nat.not_lt.2 c20)
                          have H' := Aside0.mk H
                          clear H
                          obtain ⟨Ao21, co21, eo21⟩ := Kd.R_slice HO_5.out
                          subst eo21
                          have p254 : 0 ≤ (x9_2 : Int) := of_decide_eq_true (by first | (with_reducible assumption) | assumption)
                          have q254 : x9_2 < (t249.length : Int) := of_decide_eq_true (by first | (with_reducible assumption) | assumption)
                          obtain ⟨ad254, e254, hx254_0, hx254_1, hx254_2, hx254_3⟩ := at_T32 (Kd.R_reads' HO_5.out).2.2 x9_2 p254 q254
                          cases e254
                          replace p254 := eq_true p254
                          replace q254 := eq_true q254
                          have p255 : 0 ≤ (x9_2 : Int) := of_decide_eq_true (by first | (with_reducible assumption) | assumption)
                          have q255 : x9_2 < (t249.length : Int) := of_decide_eq_true (by first | (with_reducible assumption) | assumption)
                          obtain ⟨ad255, e255, hx255_0, hx255_1, hx255_2, hx255_3⟩ := at_T32 (Kd.R_reads' HO_5.out).2.2 x9_2 p255 q255
                          obtain rfl : ad254 = ad255 := (by injection e255)
                          replace p255 := eq_true p255
                          replace q255 := eq_true q255
                          as_aux_lemma =>
                            go_wp2_with (first | (go_at_call 16; (with_reducible refine (selfstablaw04_blank.calls _ _ l1 x9_2 t256 _ ?side1 ?side2 A18.out).mono ?_); (case side1 => repeat (first | exact (Kd.C_below HR1.out HB.out) | (with_reducible refine Kd.C_alloc ?_ _) | (with_reducible refine Kd.C_drewN ?_ _) | (with_reducible refine Kd.C_drew ?_))); (case side2 => exact HC1.out); rintro e w' ⟨rfl, ⟨nd, rfl⟩⟩; (try first | exact ⟨rfl, _, World.drewN_drewN _ _ _⟩ | exact ⟨rfl, _, Eq.trans (World.drewN_drewN _ _ _) (congrArg (World.drewN _) (Nat.add_assoc _ _ _))⟩)))
                            (try simp only [List.append_eq, List.cons_append, List.nil_append])
                            repeat (go_quiet (first | (go_at_call 16; (with_reducible refine (selfstablaw04_blank.calls _ _ l1 x9_2 t256 _ ?side1 ?side2 A18.out).mono ?_); (case side1 => repeat (first | exact (Kd.C_below HR1.out HB.out) | (with_reducible refine Kd.C_alloc ?_ _) | (with_reducible refine Kd.C_drewN ?_ _) | (with_reducible refine Kd.C_drew ?_))); (case side2 => exact HC1.out); rintro e w' ⟨rfl, ⟨nd, rfl⟩⟩; (try first | exact ⟨rfl, _, World.drewN_drewN _ _ _⟩ | exact ⟨rfl, _, Eq.trans (World.drewN_drewN _ _ _) (congrArg (World.drewN _) (Nat.add_assoc _ _ _))⟩))); try go_wp2_with (first | (go_at_call 16; (with_reducible refine (selfstablaw04_blank.calls _ _ l1 x9_2 t256 _ ?side1 ?side2 A18.out).mono ?_); (case side1 => repeat (first | exact (Kd.C_below HR1.out HB.out) | (with_reducible refine Kd.C_alloc ?_ _) | (with_reducible refine Kd.C_drewN ?_ _) | (with_reducible refine Kd.C_drew ?_))); (case side2 => exact HC1.out); rintro e w' ⟨rfl, ⟨nd, rfl⟩⟩; (try first | exact ⟨rfl, _, World.drewN_drewN _ _ _⟩ | exact ⟨rfl, _, Eq.trans (World.drewN_drewN _ _ _) (congrArg (World.drewN _) (Nat.add_assoc _ _ _))⟩))))
                            go_roundg k2
                            case measure => have := HJ2.out; have := HK2.out; omega
                            case rel => exact ⟨(x8_2 ++ ((a0.extract (((rd_T32 t249 x9_2).f1) : Int).toNat (((rd_T32 t249 x9_2).f2) : Int).toNat) ++ t256)), (wrap64 (x9_2 + 1)), (by first | rfl | (simp; done) | (simp [*]; done)), (by first | rfl | (simp; done) | (simp [*]; done)), H', ⟨by have := HJ2.out; have := HK2.out; omega⟩, ⟨by (with_reducible repeat (first | apply Kd.R_alloc | apply Kd.R_drewN | apply Kd.R_drew)); exact HO_5.out⟩, ⟨by repeat (first | (with_reducible first | exact HB.out | apply below_alloc | apply pw_below_drewN | apply below_drew1) | exact HB.out)⟩⟩
                        · rw [if_neg c20] at H
                          exact absurd H (by simp)
                      · rw [if_neg c19] at H
                        exact absurd H (by simp)
                    · rw [if_neg c17] at H
                      exact absurd H (by simp)
                  · rw [if_neg c16] at H
                    exact absurd H (by simp)
                · rw [if_neg c15] at H
                  exact absurd H (by simp)
              · rw [if_neg c14] at H
                exact absurd H (by simp)
            · rw [if_neg c13] at H
              have c13b0 : decide (x9_2 < (t249.length : Int)) = false := decide_eq_false c13
              clear c13
              replace H := Option.bind_eq_some_iff.mp H
              obtain ⟨⟨t257, t258, t259⟩, A220, H⟩ := H
              replace H : (if t259 = 0 then (selfstablaw04_LexerIgnoresBlanks.j2 k2 a0 t249 x8_2 t257 ((t257.length : Int) != (t249.length : Int))) else (selfstablaw04_LexerIgnoresBlanks.j2 k2 a0 t249 x8_2 t257 true)) = some r := H
              have A22 := Aside0.mk A220
              clear A220
              have HC23 := Aside0.mk H
              clear H
              obtain ⟨Ao24, co24, eo24⟩ := Kd.R_slice HO_5.out
              subst eo24
              go_upto_region 10 with (first | (go_at_call 11; (with_reducible refine (lexer_Scan.calls k2 x8_2 t257 t258 t259 _ ?side1 A22.out).mono ?_); (case side1 => first | ((with_reducible repeat (first | exact HSHP.out | refine Shp.alloc ?_ _ | refine Shp.drewN ?_ _ | refine Shp.drew ?_)); done) | (with_reducible refine Shp.below HSHP.out ?_; repeat (first | (with_reducible first | exact HB.out | apply below_alloc | apply pw_below_drewN | apply below_drew1) | exact HB.out))); rintro e w25 ⟨v260, rfl, ho0, hb⟩; have n0_ := Aside0.mk (Kd.R_elder' (by (with_reducible repeat (first | apply Kd.R_alloc | apply Kd.R_drewN | apply Kd.R_drew)); exact HO_5.out) (Kd.R_base ho0) hb); have n1_ := Aside0.mk (Kd.R_lower (Kd.R_new' ho0 (Kd.R_lt (by (with_reducible repeat (first | apply Kd.R_alloc | apply Kd.R_drewN | apply Kd.R_drew)); exact HO_5.out))) (below_size (by repeat (first | (with_reducible first | exact HB.out | apply below_alloc | apply pw_below_drewN | apply below_drew1) | exact HB.out)))); have n2_ := Aside0.mk (below_step (by repeat (first | (with_reducible first | exact HB.out | apply below_alloc | apply pw_below_drewN | apply below_drew1) | exact HB.out)) hb); clear HO_5; clear HB; have HO_5 := n0_; have HO261 := n1_; have HB := n2_; clear n0_ n1_ n2_; (try clear hb); (try clear hb2); (try clear hk); (try clear hi); (try clear ho0)))
              (try simp only [List.append_eq, List.cons_append, List.nil_append])
              repeat (go_quiet (first | (go_at_call 11; (with_reducible refine (lexer_Scan.calls k2 x8_2 t257 t258 t259 _ ?side1 A22.out).mono ?_); (case side1 => first | ((with_reducible repeat (first | exact HSHP.out | refine Shp.alloc ?_ _ | refine Shp.drewN ?_ _ | refine Shp.drew ?_)); done) | (with_reducible refine Shp.below HSHP.out ?_; repeat (first | (with_reducible first | exact HB.out | apply below_alloc | apply pw_below_drewN | apply below_drew1) | exact HB.out))); rintro e w25 ⟨v260, rfl, ho0, hb⟩; have n0_ := Aside0.mk (Kd.R_elder' (by (with_reducible repeat (first | apply Kd.R_alloc | apply Kd.R_drewN | apply Kd.R_drew)); exact HO_5.out) (Kd.R_base ho0) hb); have n1_ := Aside0.mk (Kd.R_lower (Kd.R_new' ho0 (Kd.R_lt (by (with_reducible repeat (first | apply Kd.R_alloc | apply Kd.R_drewN | apply Kd.R_drew)); exact HO_5.out))) (below_size (by repeat (first | (with_reducible first | exact HB.out | apply below_alloc | apply pw_below_drewN | apply below_drew1) | exact HB.out)))); have n2_ := Aside0.mk (below_step (by repeat (first | (with_reducible first | exact HB.out | apply below_alloc | apply pw_below_drewN | apply below_drew1) | exact HB.out)) hb); clear HO_5; clear HB; have HO_5 := n0_; have HO261 := n1_; have HB := n2_; clear n0_ n1_ n2_; (try clear hb); (try clear hb2); (try clear hk); (try clear hi); (try clear ho0))); go_upto_region 10 with (first | (go_at_call 11; (with_reducible refine (lexer_Scan.calls k2 x8_2 t257 t258 t259 _ ?side1 A22.out).mono ?_); (case side1 => first | ((with_reducible repeat (first | exact HSHP.out | refine Shp.alloc ?_ _ | refine Shp.drewN ?_ _ | refine Shp.drew ?_)); done) | (with_reducible refine Shp.below HSHP.out ?_; repeat (first | (with_reducible first | exact HB.out | apply below_alloc | apply pw_below_drewN | apply below_drew1) | exact HB.out))); rintro e w25 ⟨v260, rfl, ho0, hb⟩; have n0_ := Aside0.mk (Kd.R_elder' (by (with_reducible repeat (first | apply Kd.R_alloc | apply Kd.R_drewN | apply Kd.R_drew)); exact HO_5.out) (Kd.R_base ho0) hb); have n1_ := Aside0.mk (Kd.R_lower (Kd.R_new' ho0 (Kd.R_lt (by (with_reducible repeat (first | apply Kd.R_alloc | apply Kd.R_drewN | apply Kd.R_drew)); exact HO_5.out))) (below_size (by repeat (first | (with_reducible first | exact HB.out | apply below_alloc | apply pw_below_drewN | apply below_drew1) | exact HB.out)))); have n2_ := Aside0.mk (below_step (by repeat (first | (with_reducible first | exact HB.out | apply below_alloc | apply pw_below_drewN | apply below_drew1) | exact HB.out)) hb); clear HO_5; clear HB; have HO_5 := n0_; have HO261 := n1_; have HB := n2_; clear n0_ n1_ n2_; (try clear hb); (try clear hb2); (try clear hk); (try clear hi); (try clear ho0))))
              (try simp only [Act.put, List.setIfInBounds_toArray, List.set_cons_zero, List.set_cons_succ])
              go_cut [67] (fun v67 wc => ∃ (kq : Nat) (x67_22 : Bool), v67 = .bool x67_22 ∧ Aside0 (selfstablaw04_LexerIgnoresBlanks.j2 kq a0 t249 x8_2 t257 x67_22 = some r) ∧ Aside0 (kq ≤ k2) ∧ Aside0 (Kd.R k32 32 wc w.heap.size (fun k_ => some k_ ≠ (v260 : Value).ownBlock) (.slice Ao24 t249.length co24) t249) ∧ Aside0 (Kd.R k32 32 wc w.heap.size (fun k_ => some k_ ≠ ((.slice Ao24 t249.length co24) : Value).ownBlock) v260 t257) ∧ Aside0 (Below w.heap.size w wc))
              case first =>
                have H := HC23.out
                clear HC23
                by_cases c26 : t259 = 0
                · rw [if_pos c26] at H
                  have c26b0 : (t259 == 0) = true := beq_iff_eq.mpr c26
                  have c26b1 : (t259 != 0) = false := bne_eq_false_iff_eq.mpr c26
                  clear c26
                  (first | rw [c26b0] | (simp only [i64_w, i32_w]; rw [c26b0]) | skip)
                  have H' := Aside0.mk H
                  clear H
                  obtain ⟨Ao27, co27, eo27⟩ := Kd.R_slice HO261.out
                  subst eo27
                  as_aux_lemma =>
                    go_wp2
                    (try simp only [List.append_eq, List.cons_append, List.nil_append])
                    repeat (go_quiet (fail); try go_wp2)
                    go_meet
                    case rel => exact ⟨_, (((t257.length : Int) != (t249.length : Int))), (by first | rfl | (simp; done) | (simp [*]; done)), H', ⟨by have := HJ2.out; have := HK2.out; first | omega | exact Nat.le_refl _⟩, ⟨by (with_reducible repeat (first | apply Kd.R_alloc | apply Kd.R_drewN | apply Kd.R_drew)); exact Kd.R_mono HO_5.out (fun _ hk => hk.2)⟩, ⟨by (with_reducible repeat (first | apply Kd.R_alloc | apply Kd.R_drewN | apply Kd.R_drew)); exact Kd.R_mono HO261.out (fun _ hk => hk.2)⟩, ⟨by repeat (first | (with_reducible first | exact HB.out | apply below_alloc | apply pw_below_drewN | apply below_drew1) | exact HB.out)⟩⟩
                · rw [if_neg c26] at H
                  have c26b0 : (t259 == 0) = false := beq_eq_false_iff_ne.mpr c26
                  have c26b1 : (t259 != 0) = true := bne_iff_ne.mpr c26
                  (first | rw [c26b0] | (simp only [i64_w, i32_w]; rw [c26b0]) | skip)
                  have H' := Aside0.mk H
                  clear H
                  as_aux_lemma =>
                    go_wp2
                    (try simp only [List.append_eq, List.cons_append, List.nil_append])
                    repeat (go_quiet (fail); try go_wp2)
                    go_meet
                    case rel => exact ⟨_, (true), (by first | rfl | (simp; done) | (simp [*]; done)), H', ⟨by have := HJ2.out; have := HK2.out; first | omega | exact Nat.le_refl _⟩, ⟨by (with_reducible repeat (first | apply Kd.R_alloc | apply Kd.R_drewN | apply Kd.R_drew)); exact Kd.R_mono HO_5.out (fun _ hk => hk.2)⟩, ⟨by (with_reducible repeat (first | apply Kd.R_alloc | apply Kd.R_drewN | apply Kd.R_drew)); exact Kd.R_mono HO261.out (fun _ hk => hk.2)⟩, ⟨by repeat (first | (with_reducible first | exact HB.out | apply below_alloc | apply pw_below_drewN | apply below_drew1) | exact HB.out)⟩⟩
              case rest =>
                clear HC23
                try clear c1
                try clear c2
                try clear p2
                try clear q2
                try clear hx2
                try clear c5
                try clear p6
                try clear c7
                try clear c8
                try clear c13
                try clear c13b0
                try clear c14
                try clear c14b0
                try clear c15
                try clear c15b0
                try clear c15b1
                try clear c16
                try clear c16b0
                try clear c16b1
                try clear c17
                try clear c17b0
                try clear c17b1
                try clear c19
                try clear c19b0
                try clear c19b1
                try clear c19b2
                try clear c20
                try clear c20b0
                try clear c20b1
                try clear c20b2
                try clear p25
                try clear q25
                try clear hx25
                try clear c26
                try clear c26b0
                try clear c26b1
                try clear hx254_0
                try clear hx254_1
                try clear hx254_2
                try clear hx254_3
                try clear hx255_0
                try clear hx255_1
                try clear hx255_2
                try clear hx255_3
                try clear p2
                try clear p254
                try clear p255
                try clear q254
                try clear q255
                obtain ⟨kq, x67_22, rfl, HA, HJ22, HO_5, HO_10, HB⟩ := hcut
                cases kq with
                | zero => exact absurd HA.out (by simp [selfstablaw04_LexerIgnoresBlanks.j2])
                | succ kj22 =>
                  have H := HA.out
                  clear HA
                  simp only [selfstablaw04_LexerIgnoresBlanks.j2] at H
                  by_cases c28 : x67_22 = true
                  · subst c28
                    have H1 : (some false) = some r := by rw [if_pos rfl] at H; exact H
                    clear H
                    have H := H1
                    clear H1
                    obtain rfl := Option.some.inj H
                    as_aux_lemma =>
                      go_wp2
                      (try simp only [List.append_eq, List.cons_append, List.nil_append])
                      repeat (go_quiet (fail); try go_wp2)
                      go_ret
                      exact ⟨by first | rfl | (simp [errW_none, errW_some] <;> rfl) | (simp [*, errW_none, errW_some] <;> rfl), by repeat (first | (with_reducible first | exact HB.out | apply below_alloc | apply pw_below_drewN | apply below_drew1) | exact HB.out)⟩
                  · replace c28 := Bool.eq_false_iff.mpr c28
                    subst c28
                    have H1 : (selfstablaw04_LexerIgnoresBlanks.l1 kj22 a0 t249 x8_2 t257 0) = some r := by rw [if_neg (show ¬ (false = true) by decide)] at H; exact H
                    clear H
                    have H := H1
                    clear H1
                    have H' := Aside0.mk H
                    clear H
                    go_wp2
                    (try simp only [List.append_eq, List.cons_append, List.nil_append])
                    repeat (go_quiet (fail); try go_wp2)
                    go_loopg [13] kj22 (fun kq v13 w' => ∃ (x13_4 : Int), v13 = .int .i64 x13_4 ∧ Aside0 (selfstablaw04_LexerIgnoresBlanks.l1 kq a0 t249 x8_2 t257 x13_4 = some r) ∧ Aside0 (kq ≤ kj22) ∧ Aside0 (Kd.R k32 32 w' w.heap.size (fun k_ => some k_ ≠ (v260 : Value).ownBlock) (.slice Ao24 t249.length co24) t249) ∧ Aside0 (Kd.R k32 32 w' w.heap.size (fun k_ => some k_ ≠ ((.slice Ao24 t249.length co24) : Value).ownBlock) v260 t257) ∧ Aside0 (Below w.heap.size w w'))
                    case atStart => exact ⟨(0), (by first | rfl | (simp; done) | (simp [*]; done)), H', ⟨Nat.le_refl _⟩, ⟨by (with_reducible repeat (first | apply Kd.R_alloc | apply Kd.R_drewN | apply Kd.R_drew)); exact HO_5.out⟩, ⟨by (with_reducible repeat (first | apply Kd.R_alloc | apply Kd.R_drewN | apply Kd.R_drew)); exact HO_10.out⟩, ⟨by repeat (first | (with_reducible first | exact HB.out | apply below_alloc | apply pw_below_drewN | apply below_drew1) | exact HB.out)⟩⟩
                    case round =>
                      clear H'
                      try clear c1
                      try clear c2
                      try clear p2
                      try clear q2
                      try clear hx2
                      try clear c5
                      try clear p6
                      try clear c7
                      try clear c8
                      try clear c13
                      try clear c13b0
                      try clear c14
                      try clear c14b0
                      try clear c15
                      try clear c15b0
                      try clear c15b1
                      try clear c16
                      try clear c16b0
                      try clear c16b1
                      try clear c17
                      try clear c17b0
                      try clear c17b1
                      try clear c19
                      try clear c19b0
                      try clear c19b1
                      try clear c19b2
                      try clear c20
                      try clear c20b0
                      try clear c20b1
                      try clear c20b2
                      try clear p25
                      try clear q25
                      try clear hx25
                      try clear c26
                      try clear c26b0
                      try clear c26b1
                      try clear c28
                      try clear hx254_0
                      try clear hx254_1
                      try clear hx254_2
                      try clear hx254_3
                      try clear hx255_0
                      try clear hx255_1
                      try clear hx255_2
                      try clear hx255_3
                      try clear p2
                      try clear p25
                      try clear p254
                      try clear p255
                      try clear p6
                      try clear q2
                      try clear q25
                      try clear q254
                      try clear q255
                      obtain ⟨x13_4, rfl, HA, HK4, HO_5, HO_10, HB⟩ := hrel
                      cases gk with
                      | zero => exact absurd HA.out (by simp [selfstablaw04_LexerIgnoresBlanks.l1])
                      | succ k4 =>
                        have H := HA.out
                        clear HA
                        simp only [selfstablaw04_LexerIgnoresBlanks.l1] at H
                        by_cases c29 : x13_4 < (t257.length : Int)
                        · rw [if_pos c29] at H
                          have c29b0 : decide (x13_4 < (t257.length : Int)) = true := decide_eq_true c29
                          clear c29
                          have HC30 := Aside0.mk H
                          clear H
                          obtain ⟨Ao31, co31, eo31⟩ := Kd.R_slice HO_10.out
                          subst eo31
                          go_upto_region 15 with (fail)
                          (try simp only [List.append_eq, List.cons_append, List.nil_append])
                          repeat (go_quiet (fail); go_upto_region 15 with (fail))
                          go_cut [155] (fun v155 wc => ∃ (kq : Nat) (x155_29 : Bool), v155 = .bool x155_29 ∧ Aside0 (selfstablaw04_LexerIgnoresBlanks.j4 kq a0 t249 x8_2 t257 x13_4 x155_29 = some r) ∧ Aside0 (kq ≤ k4) ∧ Aside0 (Kd.R k32 32 wc w.heap.size (fun k_ => some k_ ≠ ((.slice Ao31 t257.length co31) : Value).ownBlock) (.slice Ao24 t249.length co24) t249) ∧ Aside0 (Kd.R k32 32 wc w.heap.size (fun k_ => some k_ ≠ ((.slice Ao24 t249.length co24) : Value).ownBlock) (.slice Ao31 t257.length co31) t257) ∧ Aside0 (Below w.heap.size w wc))
                          case first =>
                            have H := HC30.out
                            clear HC30
                            by_cases c32 : 0 ≤ x13_4
                            · rw [if_pos c32] at H
                              have c32b0 : decide (0 ≤ x13_4) = true := decide_eq_true c32
                              clear c32
                              (first | rw [c32b0] | (simp only [i64_w, i32_w]; rw [c32b0]) | skip)
                              by_cases c33 : x13_4 < (t249.length : Int)
                              · rw [if_pos c33] at H
                                have c33b0 : decide (x13_4 < (t249.length : Int)) = true := decide_eq_true c33
                                clear c33
                                by_cases c34 : ((rd_T32 t257 x13_4).f0) = ((rd_T32 t249 x13_4).f0)
                                · rw [if_pos c34] at H
                                  have c34b0 : (((rd_T32 t257 x13_4).f0) == ((rd_T32 t249 x13_4).f0)) = true := beq_iff_eq.mpr c34
                                  have c34b1 : (((rd_T32 t257 x13_4).f0) != ((rd_T32 t249 x13_4).f0)) = false := bne_eq_false_iff_eq.mpr c34
                                  clear c34
                                  by_cases c35 : ((rd_T32 t257 x13_4).f3) = ((rd_T32 t249 x13_4).f3)
                                  · rw [if_pos c35] at H
                                    have c35b0 : (((rd_T32 t257 x13_4).f3) == ((rd_T32 t249 x13_4).f3)) = true := beq_iff_eq.mpr c35
                                    have c35b1 : (((rd_T32 t257 x13_4).f3) != ((rd_T32 t249 x13_4).f3)) = false := bne_eq_false_iff_eq.mpr c35
                                    clear c35
                                    by_cases c36 : ((rd_T32 t257 x13_4).f1) < 0
                                    · rw [if_pos c36] at H
                                      have c36b0 : decide (((rd_T32 t257 x13_4).f1) < 0) = true := decide_eq_true c36
                                      clear c36
                                      have H' := Aside0.mk H
                                      clear H
                                      have p263 : 0 ≤ (x13_4 : Int) := of_decide_eq_true (by first | (with_reducible assumption) | assumption)
                                      have q263 : x13_4 < (t257.length : Int) := of_decide_eq_true (by first | (with_reducible assumption) | assumption)
                                      obtain ⟨ad263, e263, hx263_0, hx263_1, hx263_2, hx263_3⟩ := at_T32 (Kd.R_reads' HO_10.out).2.2 x13_4 p263 q263
                                      cases e263
                                      replace p263 := eq_true p263
                                      replace q263 := eq_true q263
                                      have p264 : 0 ≤ (x13_4 : Int) := of_decide_eq_true (by first | (with_reducible assumption) | assumption)
                                      have q264 : x13_4 < (t249.length : Int) := of_decide_eq_true (by first | (with_reducible assumption) | assumption)
                                      obtain ⟨ad264, e264, hx264_0, hx264_1, hx264_2, hx264_3⟩ := at_T32 (Kd.R_reads' HO_5.out).2.2 x13_4 p264 q264
                                      cases e264
                                      replace p264 := eq_true p264
                                      replace q264 := eq_true q264
                                      have p265 : 0 ≤ (x13_4 : Int) := of_decide_eq_true (by first | (with_reducible assumption) | assumption)
                                      have q265 : x13_4 < (t257.length : Int) := of_decide_eq_true (by first | (with_reducible assumption) | assumption)
                                      obtain ⟨ad265, e265, hx265_0, hx265_1, hx265_2, hx265_3⟩ := at_T32 (Kd.R_reads' HO_10.out).2.2 x13_4 p265 q265
                                      obtain rfl : ad263 = ad265 := (by injection e265)
                                      replace p265 := eq_true p265
                                      replace q265 := eq_true q265
                                      have p266 : 0 ≤ (x13_4 : Int) := of_decide_eq_true (by first | (with_reducible assumption) | assumption)
                                      have q266 : x13_4 < (t249.length : Int) := of_decide_eq_true (by first | (with_reducible assumption) | assumption)
                                      obtain ⟨ad266, e266, hx266_0, hx266_1, hx266_2, hx266_3⟩ := at_T32 (Kd.R_reads' HO_5.out).2.2 x13_4 p266 q266
                                      obtain rfl : ad264 = ad266 := (by injection e266)
                                      replace p266 := eq_true p266
                                      replace q266 := eq_true q266
                                      have p267 : 0 ≤ (x13_4 : Int) := of_decide_eq_true (by first | (with_reducible assumption) | assumption)
                                      have q267 : x13_4 < (t257.length : Int) := of_decide_eq_true (by first | (with_reducible assumption) | assumption)
                                      obtain ⟨ad267, e267, hx267_0, hx267_1, hx267_2, hx267_3⟩ := at_T32 (Kd.R_reads' HO_10.out).2.2 x13_4 p267 q267
                                      obtain rfl : ad263 = ad267 := (by injection e267)
                                      replace p267 := eq_true p267
                                      replace q267 := eq_true q267
                                      as_aux_lemma =>
                                        go_wp2
                                        (try simp only [List.append_eq, List.cons_append, List.nil_append])
                                        repeat (go_quiet (fail); try go_wp2)
                                        go_meet
                                        case rel => exact ⟨_, (true), (by first | rfl | (simp; done) | (simp [*]; done)), H', ⟨by have := HJ2.out; have := HK2.out; have := HJ22.out; have := HK4.out; first | omega | exact Nat.le_refl _⟩, ⟨by (with_reducible repeat (first | apply Kd.R_alloc | apply Kd.R_drewN | apply Kd.R_drew)); exact HO_5.out⟩, ⟨by (with_reducible repeat (first | apply Kd.R_alloc | apply Kd.R_drewN | apply Kd.R_drew)); exact HO_10.out⟩, ⟨by repeat (first | (with_reducible first | exact HB.out | apply below_alloc | apply pw_below_drewN | apply below_drew1) | exact HB.out)⟩⟩
                                    · rw [if_neg c36] at H
                                      have c36b0 : decide (((rd_T32 t257 x13_4).f1) < 0) = false := decide_eq_false c36
                                      clear c36
                                      by_cases c37 : ((rd_T32 t257 x13_4).f2) > (x8_2.size : Int)
                                      · rw [if_pos c37] at H
                                        have c37b0 : decide ((x8_2.size : Int) < ((rd_T32 t257 x13_4).f2)) = true := decide_eq_true c37
                                        clear c37
                                        have H' := Aside0.mk H
                                        clear H
                                        have p263 : 0 ≤ (x13_4 : Int) := of_decide_eq_true (by first | (with_reducible assumption) | assumption)
                                        have q263 : x13_4 < (t257.length : Int) := of_decide_eq_true (by first | (with_reducible assumption) | assumption)
                                        obtain ⟨ad263, e263, hx263_0, hx263_1, hx263_2, hx263_3⟩ := at_T32 (Kd.R_reads' HO_10.out).2.2 x13_4 p263 q263
                                        cases e263
                                        replace p263 := eq_true p263
                                        replace q263 := eq_true q263
                                        have p264 : 0 ≤ (x13_4 : Int) := of_decide_eq_true (by first | (with_reducible assumption) | assumption)
                                        have q264 : x13_4 < (t249.length : Int) := of_decide_eq_true (by first | (with_reducible assumption) | assumption)
                                        obtain ⟨ad264, e264, hx264_0, hx264_1, hx264_2, hx264_3⟩ := at_T32 (Kd.R_reads' HO_5.out).2.2 x13_4 p264 q264
                                        cases e264
                                        replace p264 := eq_true p264
                                        replace q264 := eq_true q264
                                        have p265 : 0 ≤ (x13_4 : Int) := of_decide_eq_true (by first | (with_reducible assumption) | assumption)
                                        have q265 : x13_4 < (t257.length : Int) := of_decide_eq_true (by first | (with_reducible assumption) | assumption)
                                        obtain ⟨ad265, e265, hx265_0, hx265_1, hx265_2, hx265_3⟩ := at_T32 (Kd.R_reads' HO_10.out).2.2 x13_4 p265 q265
                                        obtain rfl : ad263 = ad265 := (by injection e265)
                                        replace p265 := eq_true p265
                                        replace q265 := eq_true q265
                                        have p266 : 0 ≤ (x13_4 : Int) := of_decide_eq_true (by first | (with_reducible assumption) | assumption)
                                        have q266 : x13_4 < (t249.length : Int) := of_decide_eq_true (by first | (with_reducible assumption) | assumption)
                                        obtain ⟨ad266, e266, hx266_0, hx266_1, hx266_2, hx266_3⟩ := at_T32 (Kd.R_reads' HO_5.out).2.2 x13_4 p266 q266
                                        obtain rfl : ad264 = ad266 := (by injection e266)
                                        replace p266 := eq_true p266
                                        replace q266 := eq_true q266
                                        have p267 : 0 ≤ (x13_4 : Int) := of_decide_eq_true (by first | (with_reducible assumption) | assumption)
                                        have q267 : x13_4 < (t257.length : Int) := of_decide_eq_true (by first | (with_reducible assumption) | assumption)
                                        obtain ⟨ad267, e267, hx267_0, hx267_1, hx267_2, hx267_3⟩ := at_T32 (Kd.R_reads' HO_10.out).2.2 x13_4 p267 q267
                                        obtain rfl : ad263 = ad267 := (by injection e267)
                                        replace p267 := eq_true p267
                                        replace q267 := eq_true q267
                                        have p268 : 0 ≤ (x13_4 : Int) := of_decide_eq_true (by first | (with_reducible assumption) | assumption)
                                        have q268 : x13_4 < (t257.length : Int) := of_decide_eq_true (by first | (with_reducible assumption) | assumption)
                                        obtain ⟨ad268, e268, hx268_0, hx268_1, hx268_2, hx268_3⟩ := at_T32 (Kd.R_reads' HO_10.out).2.2 x13_4 p268 q268
                                        obtain rfl : ad263 = ad268 := (by injection e268)
                                        replace p268 := eq_true p268
                                        replace q268 := eq_true q268
                                        as_aux_lemma =>
                                          go_wp2
                                          (try simp only [List.append_eq, List.cons_append, List.nil_append])
                                          repeat (go_quiet (fail); try go_wp2)
                                          go_meet
                                          case rel => exact ⟨_, (true), (by first | rfl | (simp; done) | (simp [*]; done)), H', ⟨by have := HJ2.out; have := HK2.out; have := HJ22.out; have := HK4.out; first | omega | exact Nat.le_refl _⟩, ⟨by (with_reducible repeat (first | apply Kd.R_alloc | apply Kd.R_drewN | apply Kd.R_drew)); exact HO_5.out⟩, ⟨by (with_reducible repeat (first | apply Kd.R_alloc | apply Kd.R_drewN | apply Kd.R_drew)); exact HO_10.out⟩, ⟨by repeat (first | (with_reducible first | exact HB.out | apply below_alloc | apply pw_below_drewN | apply below_drew1) | exact HB.out)⟩⟩
                                      · rw [if_neg c37] at H
                                        have c37b0 : decide ((x8_2.size : Int) < ((rd_T32 t257 x13_4).f2)) = false := decide_eq_false c37
                                        clear c37
                                        by_cases c38 : ((rd_T32 t257 x13_4).f2) < ((rd_T32 t257 x13_4).f1)
                                        · rw [if_pos c38] at H
                                          have c38b0 : decide (((rd_T32 t257 x13_4).f2) < ((rd_T32 t257 x13_4).f1)) = true := decide_eq_true c38
                                          clear c38
                                          have H' := Aside0.mk H
                                          clear H
                                          have p263 : 0 ≤ (x13_4 : Int) := of_decide_eq_true (by first | (with_reducible assumption) | assumption)
                                          have q263 : x13_4 < (t257.length : Int) := of_decide_eq_true (by first | (with_reducible assumption) | assumption)
                                          obtain ⟨ad263, e263, hx263_0, hx263_1, hx263_2, hx263_3⟩ := at_T32 (Kd.R_reads' HO_10.out).2.2 x13_4 p263 q263
                                          cases e263
                                          replace p263 := eq_true p263
                                          replace q263 := eq_true q263
                                          have p264 : 0 ≤ (x13_4 : Int) := of_decide_eq_true (by first | (with_reducible assumption) | assumption)
                                          have q264 : x13_4 < (t249.length : Int) := of_decide_eq_true (by first | (with_reducible assumption) | assumption)
                                          obtain ⟨ad264, e264, hx264_0, hx264_1, hx264_2, hx264_3⟩ := at_T32 (Kd.R_reads' HO_5.out).2.2 x13_4 p264 q264
                                          cases e264
                                          replace p264 := eq_true p264
                                          replace q264 := eq_true q264
                                          have p265 : 0 ≤ (x13_4 : Int) := of_decide_eq_true (by first | (with_reducible assumption) | assumption)
                                          have q265 : x13_4 < (t257.length : Int) := of_decide_eq_true (by first | (with_reducible assumption) | assumption)
                                          obtain ⟨ad265, e265, hx265_0, hx265_1, hx265_2, hx265_3⟩ := at_T32 (Kd.R_reads' HO_10.out).2.2 x13_4 p265 q265
                                          obtain rfl : ad263 = ad265 := (by injection e265)
                                          replace p265 := eq_true p265
                                          replace q265 := eq_true q265
                                          have p266 : 0 ≤ (x13_4 : Int) := of_decide_eq_true (by first | (with_reducible assumption) | assumption)
                                          have q266 : x13_4 < (t249.length : Int) := of_decide_eq_true (by first | (with_reducible assumption) | assumption)
                                          obtain ⟨ad266, e266, hx266_0, hx266_1, hx266_2, hx266_3⟩ := at_T32 (Kd.R_reads' HO_5.out).2.2 x13_4 p266 q266
                                          obtain rfl : ad264 = ad266 := (by injection e266)
                                          replace p266 := eq_true p266
                                          replace q266 := eq_true q266
                                          have p267 : 0 ≤ (x13_4 : Int) := of_decide_eq_true (by first | (with_reducible assumption) | assumption)
                                          have q267 : x13_4 < (t257.length : Int) := of_decide_eq_true (by first | (with_reducible assumption) | assumption)
                                          obtain ⟨ad267, e267, hx267_0, hx267_1, hx267_2, hx267_3⟩ := at_T32 (Kd.R_reads' HO_10.out).2.2 x13_4 p267 q267
                                          obtain rfl : ad263 = ad267 := (by injection e267)
                                          replace p267 := eq_true p267
                                          replace q267 := eq_true q267
                                          have p268 : 0 ≤ (x13_4 : Int) := of_decide_eq_true (by first | (with_reducible assumption) | assumption)
                                          have q268 : x13_4 < (t257.length : Int) := of_decide_eq_true (by first | (with_reducible assumption) | assumption)
                                          obtain ⟨ad268, e268, hx268_0, hx268_1, hx268_2, hx268_3⟩ := at_T32 (Kd.R_reads' HO_10.out).2.2 x13_4 p268 q268
                                          obtain rfl : ad263 = ad268 := (by injection e268)
                                          replace p268 := eq_true p268
                                          replace q268 := eq_true q268
                                          have p269 : 0 ≤ (x13_4 : Int) := of_decide_eq_true (by first | (with_reducible assumption) | assumption)
                                          have q269 : x13_4 < (t257.length : Int) := of_decide_eq_true (by first | (with_reducible assumption) | assumption)
                                          obtain ⟨ad269, e269, hx269_0, hx269_1, hx269_2, hx269_3⟩ := at_T32 (Kd.R_reads' HO_10.out).2.2 x13_4 p269 q269
                                          obtain rfl : ad263 = ad269 := (by injection e269)
                                          replace p269 := eq_true p269
                                          replace q269 := eq_true q269
                                          have p270 : 0 ≤ (x13_4 : Int) := of_decide_eq_true (by first | (with_reducible assumption) | assumption)
                                          have q270 : x13_4 < (t257.length : Int) := of_decide_eq_true (by first | (with_reducible assumption) | assumption)
                                          obtain ⟨ad270, e270, hx270_0, hx270_1, hx270_2, hx270_3⟩ := at_T32 (Kd.R_reads' HO_10.out).2.2 x13_4 p270 q270
                                          obtain rfl : ad263 = ad270 := (by injection e270)
                                          replace p270 := eq_true p270
                                          replace q270 := eq_true q270
                                          as_aux_lemma =>
                                            go_wp2
                                            (try simp only [List.append_eq, List.cons_append, List.nil_append])
                                            repeat (go_quiet (fail); try go_wp2)
                                            go_meet
                                            case rel => exact ⟨_, (true), (by first | rfl | (simp; done) | (simp [*]; done)), H', ⟨by have := HJ2.out; have := HK2.out; have := HJ22.out; have := HK4.out; first | omega | exact Nat.le_refl _⟩, ⟨by (with_reducible repeat (first | apply Kd.R_alloc | apply Kd.R_drewN | apply Kd.R_drew)); exact HO_5.out⟩, ⟨by (with_reducible repeat (first | apply Kd.R_alloc | apply Kd.R_drewN | apply Kd.R_drew)); exact HO_10.out⟩, ⟨by repeat (first | (with_reducible first | exact HB.out | apply below_alloc | apply pw_below_drewN | apply below_drew1) | exact HB.out)⟩⟩
                                        · rw [if_neg c38] at H
                                          have c38b0 : decide (((rd_T32 t257 x13_4).f2) < ((rd_T32 t257 x13_4).f1)) = false := decide_eq_false c38
                                          clear c38
                                          by_cases c39 : 0 ≤ ((rd_T32 t257 x13_4).f1)
                                          · rw [if_pos c39] at H
                                            have c39b0 := eq_true c39
                                            have c39b1 : decide (0 ≤ ((rd_T32 t257 x13_4).f1)) = true := decide_eq_true c39
                                            clear c39
                                            by_cases c40 : ((rd_T32 t257 x13_4).f1) ≤ ((rd_T32 t257 x13_4).f2)
                                            · rw [if_pos c40] at H
                                              have c40b0 := eq_true c40
                                              have c40b1 : decide (((rd_T32 t257 x13_4).f1) ≤ ((rd_T32 t257 x13_4).f2)) = true := decide_eq_true c40
                                              clear c40
                                              by_cases c41 : ((rd_T32 t257 x13_4).f2) ≤ (x8_2.size : Int)
                                              · rw [if_pos c41] at H
                                                have c41b0 := eq_true c41
                                                have c41b1 : decide (((rd_T32 t257 x13_4).f2) ≤ (x8_2.size : Int)) = true := decide_eq_true c41
                                                clear c41
                                                by_cases c42 : 0 ≤ ((rd_T32 t249 x13_4).f1)
                                                · rw [if_pos c42] at H
                                                  have c42b0 := eq_true c42
                                                  have c42b1 : decide (0 ≤ ((rd_T32 t249 x13_4).f1)) = true := decide_eq_true c42
                                                  clear c42
                                                  by_cases c43 : ((rd_T32 t249 x13_4).f1) ≤ ((rd_T32 t249 x13_4).f2)
                                                  · rw [if_pos c43] at H
                                                    have c43b0 := eq_true c43
                                                    have c43b1 : decide (((rd_T32 t249 x13_4).f1) ≤ ((rd_T32 t249 x13_4).f2)) = true := decide_eq_true c43
                                                    clear c43
                                                    by_cases c44 : ((rd_T32 t249 x13_4).f2) ≤ (a0.size : Int)
                                                    · rw [if_pos c44] at H
                                                      have c44b0 := eq_true c44
                                                      have c44b1 : decide (((rd_T32 t249 x13_4).f2) ≤ (a0.size : Int)) = true := decide_eq_true c44
                                                      clear c44
                                                      have H' := Aside0.mk H
                                                      clear H
                                                      have p263 : 0 ≤ (x13_4 : Int) := of_decide_eq_true (by first | (with_reducible assumption) | assumption)
                                                      have q263 : x13_4 < (t257.length : Int) := of_decide_eq_true (by first | (with_reducible assumption) | assumption)
                                                      obtain ⟨ad263, e263, hx263_0, hx263_1, hx263_2, hx263_3⟩ := at_T32 (Kd.R_reads' HO_10.out).2.2 x13_4 p263 q263
                                                      cases e263
                                                      replace p263 := eq_true p263
                                                      replace q263 := eq_true q263
                                                      have p264 : 0 ≤ (x13_4 : Int) := of_decide_eq_true (by first | (with_reducible assumption) | assumption)
                                                      have q264 : x13_4 < (t249.length : Int) := of_decide_eq_true (by first | (with_reducible assumption) | assumption)
                                                      obtain ⟨ad264, e264, hx264_0, hx264_1, hx264_2, hx264_3⟩ := at_T32 (Kd.R_reads' HO_5.out).2.2 x13_4 p264 q264
                                                      cases e264
                                                      replace p264 := eq_true p264
                                                      replace q264 := eq_true q264
                                                      have p265 : 0 ≤ (x13_4 : Int) := of_decide_eq_true (by first | (with_reducible assumption) | assumption)
                                                      have q265 : x13_4 < (t257.length : Int) := of_decide_eq_true (by first | (with_reducible assumption) | assumption)
                                                      obtain ⟨ad265, e265, hx265_0, hx265_1, hx265_2, hx265_3⟩ := at_T32 (Kd.R_reads' HO_10.out).2.2 x13_4 p265 q265
                                                      obtain rfl : ad263 = ad265 := (by injection e265)
                                                      replace p265 := eq_true p265
                                                      replace q265 := eq_true q265
                                                      have p266 : 0 ≤ (x13_4 : Int) := of_decide_eq_true (by first | (with_reducible assumption) | assumption)
                                                      have q266 : x13_4 < (t249.length : Int) := of_decide_eq_true (by first | (with_reducible assumption) | assumption)
                                                      obtain ⟨ad266, e266, hx266_0, hx266_1, hx266_2, hx266_3⟩ := at_T32 (Kd.R_reads' HO_5.out).2.2 x13_4 p266 q266
                                                      obtain rfl : ad264 = ad266 := (by injection e266)
                                                      replace p266 := eq_true p266
                                                      replace q266 := eq_true q266
                                                      have p267 : 0 ≤ (x13_4 : Int) := of_decide_eq_true (by first | (with_reducible assumption) | assumption)
                                                      have q267 : x13_4 < (t257.length : Int) := of_decide_eq_true (by first | (with_reducible assumption) | assumption)
                                                      obtain ⟨ad267, e267, hx267_0, hx267_1, hx267_2, hx267_3⟩ := at_T32 (Kd.R_reads' HO_10.out).2.2 x13_4 p267 q267
                                                      obtain rfl : ad263 = ad267 := (by injection e267)
                                                      replace p267 := eq_true p267
                                                      replace q267 := eq_true q267
                                                      have p268 : 0 ≤ (x13_4 : Int) := of_decide_eq_true (by first | (with_reducible assumption) | assumption)
                                                      have q268 : x13_4 < (t257.length : Int) := of_decide_eq_true (by first | (with_reducible assumption) | assumption)
                                                      obtain ⟨ad268, e268, hx268_0, hx268_1, hx268_2, hx268_3⟩ := at_T32 (Kd.R_reads' HO_10.out).2.2 x13_4 p268 q268
                                                      obtain rfl : ad263 = ad268 := (by injection e268)
                                                      replace p268 := eq_true p268
                                                      replace q268 := eq_true q268
                                                      have p269 : 0 ≤ (x13_4 : Int) := of_decide_eq_true (by first | (with_reducible assumption) | assumption)
                                                      have q269 : x13_4 < (t257.length : Int) := of_decide_eq_true (by first | (with_reducible assumption) | assumption)
                                                      obtain ⟨ad269, e269, hx269_0, hx269_1, hx269_2, hx269_3⟩ := at_T32 (Kd.R_reads' HO_10.out).2.2 x13_4 p269 q269
                                                      obtain rfl : ad263 = ad269 := (by injection e269)
                                                      replace p269 := eq_true p269
                                                      replace q269 := eq_true q269
                                                      have p270 : 0 ≤ (x13_4 : Int) := of_decide_eq_true (by first | (with_reducible assumption) | assumption)
                                                      have q270 : x13_4 < (t257.length : Int) := of_decide_eq_true (by first | (with_reducible assumption) | assumption)
                                                      obtain ⟨ad270, e270, hx270_0, hx270_1, hx270_2, hx270_3⟩ := at_T32 (Kd.R_reads' HO_10.out).2.2 x13_4 p270 q270
                                                      obtain rfl : ad263 = ad270 := (by injection e270)
                                                      replace p270 := eq_true p270
                                                      replace q270 := eq_true q270
                                                      have p271 : 0 ≤ (x13_4 : Int) := of_decide_eq_true (by first | (with_reducible assumption) | assumption)
                                                      have q271 : x13_4 < (t257.length : Int) := of_decide_eq_true (by first | (with_reducible assumption) | assumption)
                                                      obtain ⟨ad271, e271, hx271_0, hx271_1, hx271_2, hx271_3⟩ := at_T32 (Kd.R_reads' HO_10.out).2.2 x13_4 p271 q271
                                                      obtain rfl : ad263 = ad271 := (by injection e271)
                                                      replace p271 := eq_true p271
                                                      replace q271 := eq_true q271
                                                      have p272 : 0 ≤ (x13_4 : Int) := of_decide_eq_true (by first | (with_reducible assumption) | assumption)
                                                      have q272 : x13_4 < (t257.length : Int) := of_decide_eq_true (by first | (with_reducible assumption) | assumption)
                                                      obtain ⟨ad272, e272, hx272_0, hx272_1, hx272_2, hx272_3⟩ := at_T32 (Kd.R_reads' HO_10.out).2.2 x13_4 p272 q272
                                                      obtain rfl : ad263 = ad272 := (by injection e272)
                                                      replace p272 := eq_true p272
                                                      replace q272 := eq_true q272
                                                      have p273 : 0 ≤ (x13_4 : Int) := of_decide_eq_true (by first | (with_reducible assumption) | assumption)
                                                      have q273 : x13_4 < (t249.length : Int) := of_decide_eq_true (by first | (with_reducible assumption) | assumption)
                                                      obtain ⟨ad273, e273, hx273_0, hx273_1, hx273_2, hx273_3⟩ := at_T32 (Kd.R_reads' HO_5.out).2.2 x13_4 p273 q273
                                                      obtain rfl : ad264 = ad273 := (by injection e273)
                                                      replace p273 := eq_true p273
                                                      replace q273 := eq_true q273
                                                      have p274 : 0 ≤ (x13_4 : Int) := of_decide_eq_true (by first | (with_reducible assumption) | assumption)
                                                      have q274 : x13_4 < (t249.length : Int) := of_decide_eq_true (by first | (with_reducible assumption) | assumption)
                                                      obtain ⟨ad274, e274, hx274_0, hx274_1, hx274_2, hx274_3⟩ := at_T32 (Kd.R_reads' HO_5.out).2.2 x13_4 p274 q274
                                                      obtain rfl : ad264 = ad274 := (by injection e274)
                                                      replace p274 := eq_true p274
                                                      replace q274 := eq_true q274
                                                      as_aux_lemma =>
                                                        go_wp2
                                                        (try simp only [List.append_eq, List.cons_append, List.nil_append])
                                                        repeat (go_quiet (fail); try go_wp2)
                                                        go_meet
                                                        case rel => exact ⟨_, (((x8_2.extract (((rd_T32 t257 x13_4).f1) : Int).toNat (((rd_T32 t257 x13_4).f2) : Int).toNat).toList != (a0.extract (((rd_T32 t249 x13_4).f1) : Int).toNat (((rd_T32 t249 x13_4).f2) : Int).toNat).toList)), (by first | rfl | (simp; done) | (simp [*]; done)), H', ⟨by have := HJ2.out; have := HK2.out; have := HJ22.out; have := HK4.out; first | omega | exact Nat.le_refl _⟩, ⟨by (with_reducible repeat (first | apply Kd.R_alloc | apply Kd.R_drewN | apply Kd.R_drew)); exact HO_5.out⟩, ⟨by (with_reducible repeat (first | apply Kd.R_alloc | apply Kd.R_drewN | apply Kd.R_drew)); exact HO_10.out⟩, ⟨by repeat (first | (with_reducible first | exact HB.out | apply below_alloc | apply pw_below_drewN | apply below_drew1) | exact HB.out)⟩⟩
                                                    · rw [if_neg c44] at H
                                                      exact absurd H (by simp)
                                                  · rw [if_neg c43] at H
                                                    exact absurd H (by simp)
                                                · rw [if_neg c42] at H
                                                  exact absurd H (by simp)
                                              · rw [if_neg c41] at H
                                                exact absurd H (by simp)
                                            · rw [if_neg c40] at H
                                              exact absurd H (by simp)
                                          · rw [if_neg c39] at H
                                            exact absurd H (by simp)
                                  · rw [if_neg c35] at H
                                    have c35b0 : (((rd_T32 t257 x13_4).f3) == ((rd_T32 t249 x13_4).f3)) = false := beq_eq_false_iff_ne.mpr c35
                                    have c35b1 : (((rd_T32 t257 x13_4).f3) != ((rd_T32 t249 x13_4).f3)) = true := bne_iff_ne.mpr c35
                                    have H' := Aside0.mk H
                                    clear H
                                    have p263 : 0 ≤ (x13_4 : Int) := of_decide_eq_true (by first | (with_reducible assumption) | assumption)
                                    have q263 : x13_4 < (t257.length : Int) := of_decide_eq_true (by first | (with_reducible assumption) | assumption)
                                    obtain ⟨ad263, e263, hx263_0, hx263_1, hx263_2, hx263_3⟩ := at_T32 (Kd.R_reads' HO_10.out).2.2 x13_4 p263 q263
                                    cases e263
                                    replace p263 := eq_true p263
                                    replace q263 := eq_true q263
                                    have p264 : 0 ≤ (x13_4 : Int) := of_decide_eq_true (by first | (with_reducible assumption) | assumption)
                                    have q264 : x13_4 < (t249.length : Int) := of_decide_eq_true (by first | (with_reducible assumption) | assumption)
                                    obtain ⟨ad264, e264, hx264_0, hx264_1, hx264_2, hx264_3⟩ := at_T32 (Kd.R_reads' HO_5.out).2.2 x13_4 p264 q264
                                    cases e264
                                    replace p264 := eq_true p264
                                    replace q264 := eq_true q264
                                    have p265 : 0 ≤ (x13_4 : Int) := of_decide_eq_true (by first | (with_reducible assumption) | assumption)
                                    have q265 : x13_4 < (t257.length : Int) := of_decide_eq_true (by first | (with_reducible assumption) | assumption)
                                    obtain ⟨ad265, e265, hx265_0, hx265_1, hx265_2, hx265_3⟩ := at_T32 (Kd.R_reads' HO_10.out).2.2 x13_4 p265 q265
                                    obtain rfl : ad263 = ad265 := (by injection e265)
                                    replace p265 := eq_true p265
                                    replace q265 := eq_true q265
                                    have p266 : 0 ≤ (x13_4 : Int) := of_decide_eq_true (by first | (with_reducible assumption) | assumption)
                                    have q266 : x13_4 < (t249.length : Int) := of_decide_eq_true (by first | (with_reducible assumption) | assumption)
                                    obtain ⟨ad266, e266, hx266_0, hx266_1, hx266_2, hx266_3⟩ := at_T32 (Kd.R_reads' HO_5.out).2.2 x13_4 p266 q266
                                    obtain rfl : ad264 = ad266 := (by injection e266)
                                    replace p266 := eq_true p266
                                    replace q266 := eq_true q266
                                    as_aux_lemma =>
                                      go_wp2
                                      (try simp only [List.append_eq, List.cons_append, List.nil_append])
                                      repeat (go_quiet (fail); try go_wp2)
                                      go_meet
                                      case rel => exact ⟨_, (true), (by first | rfl | (simp; done) | (simp [*]; done)), H', ⟨by have := HJ2.out; have := HK2.out; have := HJ22.out; have := HK4.out; first | omega | exact Nat.le_refl _⟩, ⟨by (with_reducible repeat (first | apply Kd.R_alloc | apply Kd.R_drewN | apply Kd.R_drew)); exact HO_5.out⟩, ⟨by (with_reducible repeat (first | apply Kd.R_alloc | apply Kd.R_drewN | apply Kd.R_drew)); exact HO_10.out⟩, ⟨by repeat (first | (with_reducible first | exact HB.out | apply below_alloc | apply pw_below_drewN | apply below_drew1) | exact HB.out)⟩⟩
                                · rw [if_neg c34] at H
                                  have c34b0 : (((rd_T32 t257 x13_4).f0) == ((rd_T32 t249 x13_4).f0)) = false := beq_eq_false_iff_ne.mpr c34
                                  have c34b1 : (((rd_T32 t257 x13_4).f0) != ((rd_T32 t249 x13_4).f0)) = true := bne_iff_ne.mpr c34
                                  have H' := Aside0.mk H
                                  clear H
                                  have p263 : 0 ≤ (x13_4 : Int) := of_decide_eq_true (by first | (with_reducible assumption) | assumption)
                                  have q263 : x13_4 < (t257.length : Int) := of_decide_eq_true (by first | (with_reducible assumption) | assumption)
                                  obtain ⟨ad263, e263, hx263_0, hx263_1, hx263_2, hx263_3⟩ := at_T32 (Kd.R_reads' HO_10.out).2.2 x13_4 p263 q263
                                  cases e263
                                  replace p263 := eq_true p263
                                  replace q263 := eq_true q263
                                  have p264 : 0 ≤ (x13_4 : Int) := of_decide_eq_true (by first | (with_reducible assumption) | assumption)
                                  have q264 : x13_4 < (t249.length : Int) := of_decide_eq_true (by first | (with_reducible assumption) | assumption)
                                  obtain ⟨ad264, e264, hx264_0, hx264_1, hx264_2, hx264_3⟩ := at_T32 (Kd.R_reads' HO_5.out).2.2 x13_4 p264 q264
                                  cases e264
                                  replace p264 := eq_true p264
                                  replace q264 := eq_true q264
                                  as_aux_lemma =>
                                    go_wp2
                                    (try simp only [List.append_eq, List.cons_append, List.nil_append])
                                    repeat (go_quiet (fail); try go_wp2)
                                    go_meet
                                    case rel => exact ⟨_, (true), (by first | rfl | (simp; done) | (simp [*]; done)), H', ⟨by have := HJ2.out; have := HK2.out; have := HJ22.out; have := HK4.out; first | omega | exact Nat.le_refl _⟩, ⟨by (with_reducible repeat (first | apply Kd.R_alloc | apply Kd.R_drewN | apply Kd.R_drew)); exact HO_5.out⟩, ⟨by (with_reducible repeat (first | apply Kd.R_alloc | apply Kd.R_drewN | apply Kd.R_drew)); exact HO_10.out⟩, ⟨by repeat (first | (with_reducible first | exact HB.out | apply below_alloc | apply pw_below_drewN | apply below_drew1) | exact HB.out)⟩⟩
                              · rw [if_neg c33] at H
                                exact absurd H (by simp)
                            · rw [if_neg c32] at H
                              exact absurd H (by simp)
                          case rest =>
                            clear HC30
                            try clear c1
                            try clear c2
                            try clear p2
                            try clear q2
                            try clear hx2
                            try clear c3
                            try clear c4
                            try clear c5
                            try clear p6
                            try clear c7
                            try clear c8
                            try clear c13
                            try clear c13b0
                            try clear c14
                            try clear c14b0
                            try clear c15
                            try clear c15b0
                            try clear c15b1
                            try clear c16
                            try clear c16b0
                            try clear c16b1
                            try clear c17
                            try clear c17b0
                            try clear c17b1
                            try clear c19
                            try clear c19b0
                            try clear c19b1
                            try clear c19b2
                            try clear c20
                            try clear c20b0
                            try clear c20b1
                            try clear c20b2
                            try clear p25
                            try clear q25
                            try clear hx25
                            try clear c26
                            try clear c26b0
                            try clear c26b1
                            try clear p26
                            try clear q26
                            try clear hx26
                            try clear p27
                            try clear q27
                            try clear hx27
                            try clear c28
                            try clear c29
                            try clear c29b0
                            try clear c32
                            try clear c32b0
                            try clear c33
                            try clear c33b0
                            try clear c34
                            try clear c34b0
                            try clear c34b1
                            try clear c35
                            try clear c35b0
                            try clear c35b1
                            try clear c36
                            try clear c36b0
                            try clear c37
                            try clear c37b0
                            try clear c38
                            try clear c38b0
                            try clear c39
                            try clear c39b0
                            try clear c39b1
                            try clear c40
                            try clear c40b0
                            try clear c40b1
                            try clear c41
                            try clear c41b0
                            try clear c41b1
                            try clear c42
                            try clear c42b0
                            try clear c42b1
                            try clear c43
                            try clear c43b0
                            try clear c43b1
                            try clear c44
                            try clear c44b0
                            try clear c44b1
                            try clear hx254_0
                            try clear hx254_1
                            try clear hx254_2
                            try clear hx254_3
                            try clear hx255_0
                            try clear hx255_1
                            try clear hx255_2
                            try clear hx255_3
                            try clear hx263_0
                            try clear hx263_1
                            try clear hx263_2
                            try clear hx263_3
                            try clear hx264_0
                            try clear hx264_1
                            try clear hx264_2
                            try clear hx264_3
                            try clear hx265_0
                            try clear hx265_1
                            try clear hx265_2
                            try clear hx265_3
                            try clear hx266_0
                            try clear hx266_1
                            try clear hx266_2
                            try clear hx266_3
                            try clear hx267_0
                            try clear hx267_1
                            try clear hx267_2
                            try clear hx267_3
                            try clear hx268_0
                            try clear hx268_1
                            try clear hx268_2
                            try clear hx268_3
                            try clear hx269_0
                            try clear hx269_1
                            try clear hx269_2
                            try clear hx269_3
                            try clear hx270_0
                            try clear hx270_1
                            try clear hx270_2
                            try clear hx270_3
                            try clear hx271_0
                            try clear hx271_1
                            try clear hx271_2
                            try clear hx271_3
                            try clear hx272_0
                            try clear hx272_1
                            try clear hx272_2
                            try clear hx272_3
                            try clear hx273_0
                            try clear hx273_1
                            try clear hx273_2
                            try clear hx273_3
                            try clear hx274_0
                            try clear hx274_1
                            try clear hx274_2
                            try clear hx274_3
                            try clear p2
                            try clear p25
                            try clear p254
                            try clear p255
                            try clear p263
                            try clear p264
                            try clear p265
                            try clear p266
                            try clear p267
                            try clear p268
                            try clear p269
                            try clear p270
                            try clear p271
                            try clear p272
                            try clear p273
                            try clear p274
                            try clear p6
                            try clear q2
                            try clear q25
                            try clear q254
                            try clear q255
                            try clear q263
                            try clear q264
                            try clear q265
                            try clear q266
                            try clear q267
                            try clear q268
                            try clear q269
                            try clear q270
                            try clear q271
                            try clear q272
                            try clear q273
                            try clear q274
                            obtain ⟨kq, x155_29, rfl, HA, HJ29, HO_5, HO_10, HB⟩ := hcut
                            cases kq with
                            | zero => exact absurd HA.out (by simp [selfstablaw04_LexerIgnoresBlanks.j4])
                            | succ kj29 =>
                              have H := HA.out
                              clear HA
                              simp only [selfstablaw04_LexerIgnoresBlanks.j4] at H
                              by_cases c45 : x155_29 = true
                              · subst c45
                                have H1 : (some false) = some r := by rw [if_pos rfl] at H; exact H
                                clear H
                                have H := H1
                                clear H1
                                obtain rfl := Option.some.inj H
                                as_aux_lemma =>
                                  go_wp2
                                  (try simp only [List.append_eq, List.cons_append, List.nil_append])
                                  repeat (go_quiet (fail); try go_wp2)
                                  go_ret
                                  exact ⟨by first | rfl | (simp [errW_none, errW_some] <;> rfl) | (simp [*, errW_none, errW_some] <;> rfl), by repeat (first | (with_reducible first | exact HB.out | apply below_alloc | apply pw_below_drewN | apply below_drew1) | exact HB.out)⟩
                              · replace c45 := Bool.eq_false_iff.mpr c45
                                subst c45
                                have H1 : (selfstablaw04_LexerIgnoresBlanks.l1 kj29 a0 t249 x8_2 t257 (wrap64 (x13_4 + 1))) = some r := by rw [if_neg (show ¬ (false = true) by decide)] at H; exact H
                                clear H
                                have H := H1
                                clear H1
                                have H' := Aside0.mk H
                                clear H
                                as_aux_lemma =>
                                  go_wp2
                                  (try simp only [List.append_eq, List.cons_append, List.nil_append])
                                  repeat (go_quiet (fail); try go_wp2)
                                  go_roundg kj29
                                  case measure => have := HJ2.out; have := HK2.out; have := HJ22.out; have := HK4.out; have := HJ29.out; omega
                                  case rel => exact ⟨(wrap64 (x13_4 + 1)), (by first | rfl | (simp; done) | (simp [*]; done)), H', ⟨by have := HJ2.out; have := HK2.out; have := HJ22.out; have := HK4.out; have := HJ29.out; omega⟩, ⟨by (with_reducible repeat (first | apply Kd.R_alloc | apply Kd.R_drewN | apply Kd.R_drew)); exact HO_5.out⟩, ⟨by (with_reducible repeat (first | apply Kd.R_alloc | apply Kd.R_drewN | apply Kd.R_drew)); exact HO_10.out⟩, ⟨by repeat (first | (with_reducible first | exact HB.out | apply below_alloc | apply pw_below_drewN | apply below_drew1) | exact HB.out)⟩⟩
                        · rw [if_neg c29] at H
                          have c29b0 : decide (x13_4 < (t257.length : Int)) = false := decide_eq_false c29
                          clear c29
                          replace H := Option.bind_eq_some_iff.mp H
                          obtain ⟨t262, A460, H⟩ := H
                          replace H : (some t262) = some r := H
                          have A46 := Aside0.mk A460
                          clear A460
                          obtain rfl := Option.some.inj H
                          obtain ⟨Ao47, co47, eo47⟩ := Kd.R_slice HO_10.out
                          subst eo47
                          as_aux_lemma =>
                            go_wp2_with (first | (go_at_call 10; (with_reducible refine (selfstablaw04_awake.calls k4  t262 _ ?side1 A46.out).mono ?_); (case side1 => first | ((with_reducible repeat (first | exact HSHP.out | refine Shp.alloc ?_ _ | refine Shp.drewN ?_ _ | refine Shp.drew ?_)); done) | (with_reducible refine Shp.below HSHP.out ?_; repeat (first | (with_reducible first | exact HB.out | apply below_alloc | apply pw_below_drewN | apply below_drew1) | exact HB.out))); rintro e w48 ⟨rfl, hb⟩; have n0_ := Aside0.mk (Kd.R_below (by (with_reducible repeat (first | apply Kd.R_alloc | apply Kd.R_drewN | apply Kd.R_drew)); exact HO_5.out) hb); have n1_ := Aside0.mk (Kd.R_below (by (with_reducible repeat (first | apply Kd.R_alloc | apply Kd.R_drewN | apply Kd.R_drew)); exact HO_10.out) hb); have n2_ := Aside0.mk (below_step (by repeat (first | (with_reducible first | exact HB.out | apply below_alloc | apply pw_below_drewN | apply below_drew1) | exact HB.out)) hb); clear HO_5; clear HO_10; clear HB; have HO_5 := n0_; have HO_10 := n1_; have HB := n2_; clear n0_ n1_ n2_; (try clear hb); (try clear hb2); (try clear hk); (try clear hi)))
                            (try simp only [List.append_eq, List.cons_append, List.nil_append])
                            repeat (go_quiet (first | (go_at_call 10; (with_reducible refine (selfstablaw04_awake.calls k4  t262 _ ?side1 A46.out).mono ?_); (case side1 => first | ((with_reducible repeat (first | exact HSHP.out | refine Shp.alloc ?_ _ | refine Shp.drewN ?_ _ | refine Shp.drew ?_)); done) | (with_reducible refine Shp.below HSHP.out ?_; repeat (first | (with_reducible first | exact HB.out | apply below_alloc | apply pw_below_drewN | apply below_drew1) | exact HB.out))); rintro e w48 ⟨rfl, hb⟩; have n0_ := Aside0.mk (Kd.R_below (by (with_reducible repeat (first | apply Kd.R_alloc | apply Kd.R_drewN | apply Kd.R_drew)); exact HO_5.out) hb); have n1_ := Aside0.mk (Kd.R_below (by (with_reducible repeat (first | apply Kd.R_alloc | apply Kd.R_drewN | apply Kd.R_drew)); exact HO_10.out) hb); have n2_ := Aside0.mk (below_step (by repeat (first | (with_reducible first | exact HB.out | apply below_alloc | apply pw_below_drewN | apply below_drew1) | exact HB.out)) hb); clear HO_5; clear HO_10; clear HB; have HO_5 := n0_; have HO_10 := n1_; have HB := n2_; clear n0_ n1_ n2_; (try clear hb); (try clear hb2); (try clear hk); (try clear hi))); try go_wp2_with (first | (go_at_call 10; (with_reducible refine (selfstablaw04_awake.calls k4  t262 _ ?side1 A46.out).mono ?_); (case side1 => first | ((with_reducible repeat (first | exact HSHP.out | refine Shp.alloc ?_ _ | refine Shp.drewN ?_ _ | refine Shp.drew ?_)); done) | (with_reducible refine Shp.below HSHP.out ?_; repeat (first | (with_reducible first | exact HB.out | apply below_alloc | apply pw_below_drewN | apply below_drew1) | exact HB.out))); rintro e w48 ⟨rfl, hb⟩; have n0_ := Aside0.mk (Kd.R_below (by (with_reducible repeat (first | apply Kd.R_alloc | apply Kd.R_drewN | apply Kd.R_drew)); exact HO_5.out) hb); have n1_ := Aside0.mk (Kd.R_below (by (with_reducible repeat (first | apply Kd.R_alloc | apply Kd.R_drewN | apply Kd.R_drew)); exact HO_10.out) hb); have n2_ := Aside0.mk (below_step (by repeat (first | (with_reducible first | exact HB.out | apply below_alloc | apply pw_below_drewN | apply below_drew1) | exact HB.out)) hb); clear HO_5; clear HO_10; clear HB; have HO_5 := n0_; have HO_10 := n1_; have HB := n2_; clear n0_ n1_ n2_; (try clear hb); (try clear hb2); (try clear hk); (try clear hi))))
                            go_ret
                            exact ⟨by first | rfl | (simp [errW_none, errW_some] <;> rfl) | (simp [*, errW_none, errW_some] <;> rfl), by repeat (first | (with_reducible first | exact HB.out | apply below_alloc | apply pw_below_drewN | apply below_drew1) | exact HB.out)⟩
  
end Go.Proofs.Ytanickojbgceaaa.P
