-- made by a program of mine (wip/tools/pp.py over the kit's print)
import Derived.Test.YtbjigmgiecgolaaP0
import Derived.Test.YtbjigmgiecgolaaP2
namespace Go.Proofs.Ytbjigmgiecgolaa.P
open Go.RowKit Go.Proofs.YtbjigmgiecgolaaW.PrintWords Go.Proofs.YtbjigmgiecgolaaW.PrintLast Go.Proofs.YtbjigmgiecgolaaW.PrintMore
attribute [local go_sem] max2_int min2_int max_two min_two max_three min_three max_four min_four   -- for this text's walks alone
set_option linter.unusedVariables false
set_option linter.unusedSimpArgs false

/-! ### term_fold_at_term_Depth_1: function 33 -/
mutual
def term_fold_at_term_Depth_1.l0 : Nat → List (S31) → List Int → Int → Option (Int)
  | 0, _, _, _ => none
  | k + 1, x0, x5, x6 => if x6 ≥ 0 then (if 0 ≤ x6 then (if x6 < (x0.length : Int) then ((term_Arity.f k ((rd_T31 x0 x6).f0)).bind fun t112 => (term_fold_at_term_Depth_1.l1 k x0 x5 x6 0 t112 0)) else (none)) else (none)) else (if 0 < (x5.length : Int) then (some (rd x5 0)) else (none))
def term_fold_at_term_Depth_1.l1 : Nat → List (S31) → List Int → Int → Int → Int → Int → Option (Int)
  | 0, _, _, _, _, _, _ => none
  | k + 1, x0, x5, x6, x7, x23, x24 => if x24 < x23 then (if 0 ≤ (wrap64 ((x5.length : Int) - 1)) then (if (wrap64 ((x5.length : Int) - 1)) < (x5.length : Int) then (if (wrap64 ((x5.length : Int) - 1)) ≤ (x5.length : Int) then (term_fold_at_term_Depth_1.l1 k x0 (x5.take ((wrap64 ((x5.length : Int) - 1)) : Int).toNat) x6 (mx x7 (rd x5 (wrap64 ((x5.length : Int) - 1)))) x23 (wrap64 (x24 + 1))) else (none)) else (none)) else (none)) else (if 0 ≤ x6 then (if x6 < (x0.length : Int) then ((term_Depth_1.f ((rd_T31 x0 x6).f0) x7).bind fun t118 => (if x5.length < 17592186044416 then (term_fold_at_term_Depth_1.l0 k x0 (x5 ++ [t118]) (wrap64 (x6 - 1))) else (none))) else (none)) else (none))
end
def term_fold_at_term_Depth_1.f (k : Nat) (l0 : List (S31))  : Option (Int) := (term_one.f k l0).bind fun t109 => (if t109 = true then (term_fold_at_term_Depth_1.l0 k l0 ([] : List Int) (wrap64 ((l0.length : Int) - 1))) else (some 0))
theorem term_fold_at_term_Depth_1.mono_l : ∀ k, (∀ y0 y1 y2, LeO (term_fold_at_term_Depth_1.l0 k y0 y1 y2) (term_fold_at_term_Depth_1.l0 (k + 1) y0 y1 y2)) ∧ (∀ y0 y1 y2 y3 y4 y5, LeO (term_fold_at_term_Depth_1.l1 k y0 y1 y2 y3 y4 y5) (term_fold_at_term_Depth_1.l1 (k + 1) y0 y1 y2 y3 y4 y5))
  | 0 => ⟨fun _ _ _ r h => by simp [term_fold_at_term_Depth_1.l0] at h, fun _ _ _ _ _ _ r h => by simp [term_fold_at_term_Depth_1.l1] at h⟩
  | k + 1 => by
    obtain ⟨ih0, ih1⟩ := term_fold_at_term_Depth_1.mono_l k
    refine ⟨?_, ?_⟩
    · intro y0 y1 y2
      unfold term_fold_at_term_Depth_1.l0
      repeat' first
      | (with_reducible exact ih0 _ _ _)
      | (with_reducible exact ih1 _ _ _ _ _ _)
      | (with_reducible exact term_Arity.mono _ _)
      | (with_reducible exact term_one.mono _ _)
      | (with_reducible exact LeO.refl _)
      | (with_reducible exact LeO.none _)
      | (with_reducible refine LeO.ite ?_ ?_)
      | (with_reducible refine LeO.bind ?_ (fun _ => ?_))
      | exact ih0 _ _ _
      | exact ih1 _ _ _ _ _ _
      | exact term_Arity.mono _ _
      | exact term_one.mono _ _
      | exact LeO.none _
      | refine LeO.ite ?_ ?_
      | refine LeO.bind ?_ (fun _ => ?_)
    · intro y0 y1 y2 y3 y4 y5
      unfold term_fold_at_term_Depth_1.l1
      repeat' first
      | (with_reducible exact ih0 _ _ _)
      | (with_reducible exact ih1 _ _ _ _ _ _)
      | (with_reducible exact term_Arity.mono _ _)
      | (with_reducible exact term_one.mono _ _)
      | (with_reducible exact LeO.refl _)
      | (with_reducible exact LeO.none _)
      | (with_reducible refine LeO.ite ?_ ?_)
      | (with_reducible refine LeO.bind ?_ (fun _ => ?_))
      | exact ih0 _ _ _
      | exact ih1 _ _ _ _ _ _
      | exact term_Arity.mono _ _
      | exact term_one.mono _ _
      | exact LeO.none _
      | refine LeO.ite ?_ ?_
      | refine LeO.bind ?_ (fun _ => ?_)
theorem term_fold_at_term_Depth_1.mono : ∀ a0 k, LeO (term_fold_at_term_Depth_1.f k a0) (term_fold_at_term_Depth_1.f (k + 1) a0) := by
  intro a0 k
  obtain ⟨ih0, ih1⟩ := term_fold_at_term_Depth_1.mono_l k
  unfold term_fold_at_term_Depth_1.f
  repeat' first
      | (with_reducible exact ih0 _ _ _)
      | (with_reducible exact ih1 _ _ _ _ _ _)
      | (with_reducible exact term_Arity.mono _ _)
      | (with_reducible exact term_one.mono _ _)
      | (with_reducible exact LeO.refl _)
      | (with_reducible exact LeO.none _)
      | (with_reducible refine LeO.ite ?_ ?_)
      | (with_reducible refine LeO.bind ?_ (fun _ => ?_))
      | exact ih0 _ _ _
      | exact ih1 _ _ _ _ _ _
      | exact term_Arity.mono _ _
      | exact term_one.mono _ _
      | exact LeO.none _
      | refine LeO.ite ?_ ?_
      | refine LeO.bind ?_ (fun _ => ?_)
set_option maxHeartbeats 6000000 in
set_option maxRecDepth 100000 in
theorem term_fold_at_term_Depth_1.calls (k : Nat) (A0 : Option Addr) (c0 : Nat) (l0 : List (S31))  (r : Int) (w : World) (hr0 : Kd.C k31 w A0 l0.length l0) (hc0 : l0.length ≤ c0) (h : term_fold_at_term_Depth_1.f k l0 = some r) :
    Calls Try.prog 33 #[.slice A0 l0.length c0, .func (.func 34) #[] #[]] w fun e w' => e = .returned (.int .i64 r) ∧ Below w.heap.size w w' := by
  have HR0 := Aside0.mk hr0
  have HC0 := Aside0.mk hc0
  clear hr0 hc0
  have HB := Aside0.mk (Below.refl w.heap.size w)
  have H : ((term_one.f k l0).bind fun t109 => (if t109 = true then (term_fold_at_term_Depth_1.l0 k l0 ([] : List Int) (wrap64 ((l0.length : Int) - 1))) else (some 0))) = some r := h
  clear h
  replace H := Option.bind_eq_some_iff.mp H
  obtain ⟨t109, A30, H⟩ := H
  replace H : (if t109 = true then (term_fold_at_term_Depth_1.l0 k l0 ([] : List Int) (wrap64 ((l0.length : Int) - 1))) else (some 0)) = some r := H
  have A3 := Aside0.mk A30
  clear A30
  by_cases c4 : t109 = true
  · subst c4
    have H1 : (term_fold_at_term_Depth_1.l0 k l0 ([] : List Int) (wrap64 ((l0.length : Int) - 1))) = some r := by rw [if_pos rfl] at H; exact H
    clear H
    have H := H1
    clear H1
    have H' := Aside0.mk H
    clear H
    go_enter Try.func33, Try.ntmps33
    go_wp2_with (first | ((with_reducible refine gate_callee (f := 40) rfl ?_); refine goesL_ (some 9) rfl rfl Try.func40 (by kernel_rfl) rfl #[.slice A0 l0.length c0] rfl (by (try simp only [List.map_toArray, List.map_cons, List.map_nil]); first | done | rfl | (simp only [List.length_drop, List.length_take]; rfl)) ?_; (with_reducible refine (term_one.calls k _ _ l0 true _ ?side1 ?side2 A3.out).mono ?_); (case side1 => repeat (first | exact HR0.out | (with_reducible refine Kd.C_alloc ?_ _) | (with_reducible refine Kd.C_drewN ?_ _) | (with_reducible refine Kd.C_drew ?_))); (case side2 => exact HC0.out); rintro e w' ⟨rfl, ⟨nd, rfl⟩⟩; refine ⟨_, rfl, ?_⟩))
    go_loopg [5, 6] k (fun kq v5 v6 w' => ∃ (x5_1 : List Int) (x6_1 : Int), v6 = .int .i64 x6_1 ∧ Aside0 (term_fold_at_term_Depth_1.l0 kq l0 x5_1 x6_1 = some r) ∧ Aside0 (kq ≤ k) ∧ Aside0 (Kd.R (Kd.int .i64) 3 w' w.heap.size (fun _ => True) v5 x5_1) ∧ Aside0 (Below w.heap.size w w'))
    case atStart => exact ⟨(([] : List Int)), (wrap64 ((l0.length : Int) - 1)), (by first | rfl | (simp; done) | (simp [*]; done)), H', ⟨Nat.le_refl _⟩, ⟨by first | exact Kd.R_nil _ _ _ _ _ | exact Kd.N_nil _ _ _ _ _ | exact Kd.V_nil _ _ _ _ _ | exact Kd.Q_nil _ _ _ _ _ | exact Kd.S_nil _ _ _ _ _⟩, ⟨by repeat (first | (with_reducible first | exact HB.out | apply below_alloc | apply pw_below_drewN | apply below_drew1) | exact HB.out)⟩⟩
    case round =>
      clear H'
      try clear p2
      try clear c4
      obtain ⟨x5_1, x6_1, rfl, HA, HK1, HO_5, HB⟩ := hrel
      cases gk with
      | zero => exact absurd HA.out (by simp [term_fold_at_term_Depth_1.l0])
      | succ k1 =>
        have H := HA.out
        clear HA
        simp only [term_fold_at_term_Depth_1.l0] at H
        by_cases c5 : x6_1 ≥ 0
        · rw [if_pos c5] at H
          have c5b0 : decide (0 ≤ x6_1) = true := decide_eq_true c5
          clear c5
          by_cases c6 : 0 ≤ x6_1
          · rw [if_pos c6] at H
            have c6b0 : decide (0 ≤ x6_1) = true := decide_eq_true c6
            clear c6
            by_cases c7 : x6_1 < (l0.length : Int)
            · rw [if_pos c7] at H
              have c7b0 : decide (x6_1 < (l0.length : Int)) = true := decide_eq_true c7
              clear c7
              replace H := Option.bind_eq_some_iff.mp H
              obtain ⟨t112, A80, H⟩ := H
              replace H : (term_fold_at_term_Depth_1.l1 k1 l0 x5_1 x6_1 0 t112 0) = some r := H
              have A8 := Aside0.mk A80
              clear A80
              have H' := Aside0.mk H
              clear H
              have p111 : 0 ≤ (x6_1 : Int) := of_decide_eq_true (by first | (with_reducible assumption) | assumption)
              have q111 : x6_1 < (l0.length : Int) := of_decide_eq_true (by first | (with_reducible assumption) | assumption)
              obtain ⟨ad111, e111, hx111_0, hx111_1⟩ := at_T31 HR0.out x6_1 p111 q111
              cases e111
              replace hx111_0 := (HB.out.cell (World.block_lt_of_cell? w _ hx111_0)).trans hx111_0
              replace hx111_1 := (HB.out.cell (World.block_lt_of_cell? w _ hx111_1)).trans hx111_1
              replace p111 := eq_true p111
              replace q111 := eq_true q111
              go_wp2_with (first | ((with_reducible refine gate_callee (f := 12) rfl ?_); refine goesL_ (some 23) rfl rfl Try.func12 (by kernel_rfl) rfl #[.int .i64 ((rd_T31 l0 x6_1).f0)] rfl (by (try simp only [List.map_toArray, List.map_cons, List.map_nil]); first | done | rfl | (simp only [List.length_drop, List.length_take]; rfl)) ?_; (with_reducible refine (term_Arity.calls k1 ((rd_T31 l0 x6_1).f0) t112 _ A8.out).mono ?_); rintro e w' ⟨rfl, ⟨nd, rfl⟩⟩; refine ⟨_, rfl, ?_⟩))
              go_loopg [5, 7, 24] k1 (fun kq v5 v7 v24 w' => ∃ (x5_2 : List Int) (x7_2 : Int) (x24_2 : Int), v7 = .int .i64 x7_2 ∧ v24 = .int .i64 x24_2 ∧ Aside0 (term_fold_at_term_Depth_1.l1 kq l0 x5_2 x6_1 x7_2 t112 x24_2 = some r) ∧ Aside0 (kq ≤ k1) ∧ Aside0 (Kd.R (Kd.int .i64) 3 w' w.heap.size (fun _ => True) v5 x5_2) ∧ Aside0 (Below w.heap.size w w'))
              case atStart => exact ⟨(x5_1), (0), (0), (by first | rfl | (simp; done) | (simp [*]; done)), (by first | rfl | (simp; done) | (simp [*]; done)), H', ⟨Nat.le_refl _⟩, ⟨by (with_reducible repeat (first | apply Kd.R_alloc | apply Kd.R_drewN | apply Kd.R_drew)); exact HO_5.out⟩, ⟨by repeat (first | (with_reducible first | exact HB.out | apply below_alloc | apply pw_below_drewN | apply below_drew1) | exact HB.out)⟩⟩
              case round =>
                clear H'
                try clear c1
                try clear p1
                try clear q1
                try clear hx1
                try clear p2
                try clear c4
                try clear c5
                try clear c5b0
                try clear c6
                try clear c6b0
                try clear p6
                try clear c7
                try clear c7b0
                try clear hx111_0
                try clear hx111_1
                try clear p111
                try clear p2
                try clear q111
                obtain ⟨x5_2, x7_2, x24_2, rfl, rfl, HA, HK2, HO_5, HB⟩ := hrel
                cases gk with
                | zero => exact absurd HA.out (by simp [term_fold_at_term_Depth_1.l1])
                | succ k2 =>
                  have H := HA.out
                  clear HA
                  simp only [term_fold_at_term_Depth_1.l1] at H
                  by_cases c9 : x24_2 < t112
                  · rw [if_pos c9] at H
                    have c9b0 : decide (x24_2 < t112) = true := decide_eq_true c9
                    clear c9
                    obtain ⟨ji10, hji10⟩ : ∃ j_ : Int, (wrap64 ((x5_2.length : Int) - 1)) = j_ := ⟨_, rfl⟩
                    replace H : (if 0 ≤ (ji10) then (if (ji10) < (x5_2.length : Int) then (if (ji10) ≤ (x5_2.length : Int) then (term_fold_at_term_Depth_1.l1 k2 l0 (x5_2.take ((ji10) : Int).toNat) x6_1 (mx x7_2 (rd x5_2 (ji10))) t112 (wrap64 (x24_2 + 1))) else (none)) else (none)) else (none)) = some r := by first | (rw [hji10] at H; exact H) | (simp only [hji10] at H ⊢; exact H)
                    have hji10w : (IntKind.i64.wrap ((x5_2.length : Int) - 1)) = ji10 := (i64_w _).trans hji10
                    by_cases c11 : 0 ≤ (ji10)
                    · rw [if_pos c11] at H
                      have c11b0 : decide (0 ≤ (ji10)) = true := decide_eq_true c11
                      clear c11
                      by_cases c12 : (ji10) < (x5_2.length : Int)
                      · rw [if_pos c12] at H
                        have c12b0 : decide ((ji10) < (x5_2.length : Int)) = true := decide_eq_true c12
                        clear c12
                        obtain ⟨ji13, hji13⟩ : ∃ j_ : Int, (mx x7_2 (rd x5_2 (ji10))) = j_ := ⟨_, rfl⟩
                        replace H : (if (ji10) ≤ (x5_2.length : Int) then (term_fold_at_term_Depth_1.l1 k2 l0 (x5_2.take ((ji10) : Int).toNat) x6_1 ji13 t112 (wrap64 (x24_2 + 1))) else (none)) = some r := by first | (rw [hji13] at H; exact H) | (simp only [hji13] at H ⊢; exact H)
                        have hji13_ : (if x7_2 < (rd x5_2 (ji10)) then (rd x5_2 (ji10)) else x7_2) = ji13 := hji13
                        by_cases c14 : (ji10) ≤ (x5_2.length : Int)
                        · rw [if_pos c14] at H
                          have c14b0 := eq_true c14
                          have c14b1 : decide ((ji10) ≤ (x5_2.length : Int)) = true := decide_eq_true c14
                          clear c14
                          obtain ⟨y114, hy114⟩ : ∃ y_ : List Int, y_ = (x5_2.take ((ji10) : Int).toNat) := ⟨_, rfl⟩
                          replace H : (term_fold_at_term_Depth_1.l1 k2 l0 y114 x6_1 ji13 t112 (wrap64 (x24_2 + 1))) = some r := by first | (rw [hy114]; with_reducible exact H) | (have H2_ := (Option.bind_some _ _).symm.trans H; rw [hy114]; with_reducible exact H2_) | (have H2_ := (Option.bind_some _ _).symm.trans H; with_reducible exact H2_) | with_reducible exact H | (rw [hy114]; exact H) | exact H
                          have Ny114 := Aside0.mk hy114
                          clear hy114
                          have H' := Aside0.mk H
                          clear H
                          obtain ⟨Ao15, co15, eo15⟩ := Kd.R_slice HO_5.out
                          subst eo15
                          have p113 : 0 ≤ ((ji10) : Int) := of_decide_eq_true (by first | (with_reducible assumption) | assumption)
                          have q113 : (ji10) < (x5_2.length : Int) := of_decide_eq_true (by first | (with_reducible assumption) | assumption)
                          obtain ⟨ad113, e113, hx113_0⟩ := Kd.at_int (Kd.R_reads' HO_5.out).2.2 (ji10) p113 q113
                          cases e113
                          replace p113 := eq_true p113
                          replace q113 := eq_true q113
                          have q16 : ((ji10) : Int) ≤ ((x5_2.length : Int) : Int) := of_decide_eq_true (by first | (with_reducible assumption) | assumption)
                          obtain ⟨i016, hi016, _, hsz16, _⟩ := info_parts info3
                          have hcut16 := cut_to (P := Try.prog) 37 3 .i64 Try.underlying37 hi016 (some ad113) x5_2.length co15 (ji10) (of_decide_eq_true (by first | (with_reducible assumption) | assumption)) q16 (Kd.R_reads' HO_5.out).2.1
                          have hr16 := Kd.R_take (m := ((ji10) : Int).toNat) HO_5.out (by omega)
                          have hy16 : y114.length = ((ji10) : Int).toNat := (by rw [Ny114.out, List.length_take]; omega)
                          rw [← Ny114.out] at hr16
                          rw [← hy16] at hr16 hcut16
                          clear hy16 hi016 hsz16 HO_5
                          have HO116 := Aside0.mk hr16
                          clear hr16
                          replace q16 := eq_true q16
                          go_wp2
                          go_roundg k2
                          case measure => have := HK1.out; have := HK2.out; omega
                          case rel => exact ⟨(y114), (ji13), (wrap64 (x24_2 + 1)), (by first | rfl | (simp; done) | (simp only [← hji13] <;> (first | rfl | simp)) | (simp [*]; done)), (by first | rfl | (simp; done) | (simp [*]; done)), H', ⟨by have := HK1.out; have := HK2.out; omega⟩, ⟨by (with_reducible repeat (first | apply Kd.R_alloc | apply Kd.R_drewN | apply Kd.R_drew)); exact HO116.out⟩, ⟨by repeat (first | (with_reducible first | exact HB.out | apply below_alloc | apply pw_below_drewN | apply below_drew1) | exact HB.out)⟩⟩
                        · rw [if_neg c14] at H
                          exact absurd H (by simp)
                      · rw [if_neg c12] at H
                        exact absurd H (by simp)
                    · rw [if_neg c11] at H
                      exact absurd H (by simp)
                  · rw [if_neg c9] at H
                    have c9b0 : decide (x24_2 < t112) = false := decide_eq_false c9
                    clear c9
                    by_cases c17 : 0 ≤ x6_1
                    · rw [if_pos c17] at H
                      have c17b0 : decide (0 ≤ x6_1) = true := decide_eq_true c17
                      clear c17
                      by_cases c18 : x6_1 < (l0.length : Int)
                      · rw [if_pos c18] at H
                        have c18b0 : decide (x6_1 < (l0.length : Int)) = true := decide_eq_true c18
                        clear c18
                        replace H := Option.bind_eq_some_iff.mp H
                        obtain ⟨t118, A190, H⟩ := H
                        replace H : (if x5_2.length < 17592186044416 then (term_fold_at_term_Depth_1.l0 k2 l0 (x5_2 ++ [t118]) (wrap64 (x6_1 - 1))) else (none)) = some r := H
                        have A19 := Aside0.mk A190
                        clear A190
                        by_cases c20 : x5_2.length < 17592186044416
                        · rw [if_pos c20] at H
                          have LMc20 := Aside0.mk c20
                          clear c20
                          obtain ⟨y119, hy119⟩ : ∃ y_ : List Int, y_ = (x5_2 ++ [t118]) := ⟨_, rfl⟩
                          replace H : (term_fold_at_term_Depth_1.l0 k2 l0 y119 (wrap64 (x6_1 - 1))) = some r := by first | (rw [hy119]; with_reducible exact H) | (have H2_ := (Option.bind_some _ _).symm.trans H; rw [hy119]; with_reducible exact H2_) | (have H2_ := (Option.bind_some _ _).symm.trans H; with_reducible exact H2_) | with_reducible exact H | (rw [hy119]; exact H) | exact H
                          have Ny119 := Aside0.mk hy119
                          clear hy119
                          have H' := Aside0.mk H
                          clear H
                          have p117 : 0 ≤ (x6_1 : Int) := of_decide_eq_true (by first | (with_reducible assumption) | assumption)
                          have q117 : x6_1 < (l0.length : Int) := of_decide_eq_true (by first | (with_reducible assumption) | assumption)
                          obtain ⟨ad117, e117, hx117_0, hx117_1⟩ := at_T31 HR0.out x6_1 p117 q117
                          obtain rfl : ad111 = ad117 := (by injection e117)
                          replace hx117_0 := (HB.out.cell (World.block_lt_of_cell? w _ hx117_0)).trans hx117_0
                          replace hx117_1 := (HB.out.cell (World.block_lt_of_cell? w _ hx117_1)).trans hx117_1
                          replace p117 := eq_true p117
                          replace q117 := eq_true q117
                          go_wp2_with (first | (go_at_call 34; (with_reducible refine (term_Depth_1.calls ((rd_T31 l0 x6_1).f0) x7_2 t118 _ A19.out).mono ?_); rintro e w' ⟨rfl, ⟨nd, rfl⟩⟩) | ((with_reducible refine gate_builtin (b := .append) (xs := #[.tmp 40, .tmp 49]) rfl ?_); at_builtin; refine Kd.R_append (Kd.int .i64) (w0 := w) w.heap.size rfl (.tmp 40) (.tmp 49) 37 3 (.int .i64 0) 8 rfl Try.underlying37 info3 rfl (by decide) (by omega) u5 x5_2 t118 [.int .i64 t118] (fun _ => True) (fun _ => False) rfl rfl ?aP (fun _ hk => hk.elim) ?aF ?aO ?aB ?aS ?aL ?_; (case aP => exact rfl); (case aB => exact (by repeat (first | (with_reducible first | exact HB.out | apply below_alloc | apply pw_below_drewN | apply below_drew1) | exact HB.out))); (case aF => exact (fun _ _ => trivial)); (case aO => exact (by (with_reducible repeat (first | apply Kd.R_alloc | apply Kd.R_drewN | apply Kd.R_drew)); exact HO_5.out)); (case aS => exact (below_size (by repeat (first | (with_reducible first | exact HB.out | apply below_alloc | apply pw_below_drewN | apply below_drew1) | exact HB.out)))); (case aL => have := LMc20.out; omega); intro v120 w21 ho hb hg hat; rw [← Ny119.out] at ho; have n0_ := Aside0.mk (hb); have n1_ := Aside0.mk (ho); clear HB; clear HO_5; have HB := n0_; have HO121 := n1_; clear n0_ n1_; clear ho hb hg hat))
                          go_roundg k2
                          case measure => have := HK1.out; have := HK2.out; omega
                          case rel => exact ⟨(y119), (wrap64 (x6_1 - 1)), (by first | rfl | (simp; done) | (simp [*]; done)), H', ⟨by have := HK1.out; have := HK2.out; omega⟩, ⟨by (with_reducible repeat (first | apply Kd.R_alloc | apply Kd.R_drewN | apply Kd.R_drew)); exact HO121.out⟩, ⟨by repeat (first | (with_reducible first | exact HB.out | apply below_alloc | apply pw_below_drewN | apply below_drew1) | exact HB.out)⟩⟩
                        · rw [if_neg c20] at H
                          exact absurd H (by simp)
                      · rw [if_neg c18] at H
                        exact absurd H (by simp)
                    · rw [if_neg c17] at H
                      exact absurd H (by simp)
            · rw [if_neg c7] at H
              exact absurd H (by simp)
          · rw [if_neg c6] at H
            exact absurd H (by simp)
        · rw [if_neg c5] at H
          have c5b0 : decide (0 ≤ x6_1) = false := decide_eq_false c5
          clear c5
          by_cases c22 : 0 < (x5_1.length : Int)
          · rw [if_pos c22] at H
            have c22b0 : decide (0 < (x5_1.length : Int)) = true := decide_eq_true c22
            have c22b1 : decide (0 < x5_1.length) = true := decide_eq_true (by omega)
            clear c22
            obtain rfl := Option.some.inj H
            obtain ⟨Ao23, co23, eo23⟩ := Kd.R_slice HO_5.out
            subst eo23
            have p110 : 0 ≤ (0 : Int) := (by omega)
            have q110 : 0 < (x5_1.length : Int) := of_decide_eq_true (by first | (with_reducible assumption) | assumption)
            obtain ⟨ad110, e110, hx110_0⟩ := Kd.at_int (Kd.R_reads' HO_5.out).2.2 0 p110 q110
            cases e110
            have qi110 : (0 < x5_1.length) = True := eq_true (by omega)
            (try rw [show ((0 : Int)).toNat = 0 from rfl] at hx110_0)
            (try rw [Addr.add_zero'] at hx110_0)
            replace p110 := eq_true p110
            replace q110 := eq_true q110
            go_wp2
            go_ret
            exact ⟨by first | rfl | (simp [errW_none, errW_some] <;> rfl) | (simp [*, errW_none, errW_some] <;> rfl), by repeat (first | (with_reducible first | exact HB.out | apply below_alloc | apply pw_below_drewN | apply below_drew1) | exact HB.out)⟩
          · rw [if_neg c22] at H
            exact absurd H (by simp)
  · replace c4 := Bool.eq_false_iff.mpr c4
    subst c4
    have H1 : (some 0) = some r := by rw [if_neg (show ¬ (false = true) by decide)] at H; exact H
    clear H
    have H := H1
    clear H1
    obtain rfl := Option.some.inj H
    go_enter Try.func33, Try.ntmps33
    go_wp2_with (first | ((with_reducible refine gate_callee (f := 40) rfl ?_); refine goesL_ (some 9) rfl rfl Try.func40 (by kernel_rfl) rfl #[.slice A0 l0.length c0] rfl (by (try simp only [List.map_toArray, List.map_cons, List.map_nil]); first | done | rfl | (simp only [List.length_drop, List.length_take]; rfl)) ?_; (with_reducible refine (term_one.calls k _ _ l0 false _ ?side1 ?side2 A3.out).mono ?_); (case side1 => repeat (first | exact HR0.out | (with_reducible refine Kd.C_alloc ?_ _) | (with_reducible refine Kd.C_drewN ?_ _) | (with_reducible refine Kd.C_drew ?_))); (case side2 => exact HC0.out); rintro e w' ⟨rfl, ⟨nd, rfl⟩⟩; refine ⟨_, rfl, ?_⟩))
    go_ret
    exact ⟨by first | rfl | (simp [errW_none, errW_some] <;> rfl) | (simp [*, errW_none, errW_some] <;> rfl), by repeat (first | (with_reducible first | exact HB.out | apply below_alloc | apply pw_below_drewN | apply below_drew1) | exact HB.out)⟩

/-! ### term_Depth: function 18 -/
def term_Depth.f (k : Nat) (l0 : List (S31)) : Option (Int) := (term_fold_at_term_Depth_1.f k l0).bind fun t122 => (some t122)
theorem term_Depth.mono : ∀ a0 k, LeO (term_Depth.f k a0) (term_Depth.f (k + 1) a0) := by
  intro a0 k
  unfold term_Depth.f
  repeat' first
      | (with_reducible exact term_fold_at_term_Depth_1.mono _ _)
      | (with_reducible exact LeO.refl _)
      | (with_reducible exact LeO.none _)
      | (with_reducible refine LeO.ite ?_ ?_)
      | (with_reducible refine LeO.bind ?_ (fun _ => ?_))
      | exact term_fold_at_term_Depth_1.mono _ _
      | exact LeO.none _
      | refine LeO.ite ?_ ?_
      | refine LeO.bind ?_ (fun _ => ?_)
set_option maxHeartbeats 6000000 in
set_option maxRecDepth 100000 in
theorem term_Depth.calls (k : Nat) (A0 : Option Addr) (c0 : Nat) (l0 : List (S31)) (r : Int) (w : World) (hr0 : Kd.C k31 w A0 l0.length l0) (hc0 : l0.length ≤ c0) (h : term_Depth.f k l0 = some r) :
    Calls Try.prog 18 #[.slice A0 l0.length c0] w fun e w' => e = .returned (.int .i64 r) ∧ Below w.heap.size w w' := by
  have HR0 := Aside0.mk hr0
  have HC0 := Aside0.mk hc0
  clear hr0 hc0
  have HB := Aside0.mk (Below.refl w.heap.size w)
  have H : ((term_fold_at_term_Depth_1.f k l0).bind fun t122 => (some t122)) = some r := h
  clear h
  replace H := Option.bind_eq_some_iff.mp H
  obtain ⟨t122, A20, H⟩ := H
  replace H : (some t122) = some r := H
  have A2 := Aside0.mk A20
  clear A20
  obtain rfl := Option.some.inj H
  go_enter Try.func18, Try.ntmps18
  go_wp2_with (first | ((with_reducible refine gate_callee (f := 33) rfl ?_); refine goesL_ (some 4) rfl rfl Try.func33 (by kernel_rfl) rfl #[.slice A0 l0.length c0, .func (.func 34) #[] #[]] rfl (by (try simp only [List.map_toArray, List.map_cons, List.map_nil]); first | done | rfl | (simp only [List.length_drop, List.length_take]; rfl)) ?_; (with_reducible refine (term_fold_at_term_Depth_1.calls k _ _ l0  t122 _ ?side1 ?side2 A2.out).mono ?_); (case side1 => repeat (first | exact HR0.out | (with_reducible refine Kd.C_alloc ?_ _) | (with_reducible refine Kd.C_drewN ?_ _) | (with_reducible refine Kd.C_drew ?_))); (case side2 => exact HC0.out); rintro e w3 ⟨rfl, hb⟩; refine ⟨_, rfl, ?_⟩; have n0_ := Aside0.mk (below_step (by repeat (first | (with_reducible first | exact HB.out | apply below_alloc | apply pw_below_drewN | apply below_drew1) | exact HB.out)) hb); clear HB; have HB := n0_; clear n0_; (try clear hb); (try clear hb2); (try clear hk); (try clear hi)))
  go_ret
  exact ⟨by first | rfl | (simp [errW_none, errW_some] <;> rfl) | (simp [*, errW_none, errW_some] <;> rfl), by repeat (first | (with_reducible first | exact HB.out | apply below_alloc | apply pw_below_drewN | apply below_drew1) | exact HB.out)⟩

/-! ### term_aggregate: function 38 -/
def term_aggregate.f (a0 : Int) : Option (Bool) := if a0 ≥ 20 then (some (decide (a0 ≤ 29))) else (some false)
set_option maxHeartbeats 6000000 in
set_option maxRecDepth 100000 in
theorem term_aggregate.calls (a0 : Int) (r : Bool) (w : World) (h : term_aggregate.f a0 = some r) :
    Calls Try.prog 38 #[.int .i64 a0] w fun e w' => e = .returned (.bool r) ∧ Drawn0 w w' := by
  have H : (if a0 ≥ 20 then (some (decide (a0 ≤ 29))) else (some false)) = some r := h
  clear h
  by_cases c2 : a0 ≥ 20
  · rw [if_pos c2] at H
    have c2b0 : decide (20 ≤ a0) = true := decide_eq_true c2
    clear c2
    obtain rfl := Option.some.inj H
    go_enter Try.func38, Try.ntmps38
    go_wp2
    go_ret
    exact ⟨by first | rfl | (simp; done) | (simp [*]; done), by repeat (first | exact Drawn0.refl _ | apply Drawn0.step)⟩
  · rw [if_neg c2] at H
    have c2b0 : decide (20 ≤ a0) = false := decide_eq_false c2
    clear c2
    obtain rfl := Option.some.inj H
    go_enter Try.func38, Try.ntmps38
    go_wp2
    go_ret
    exact ⟨by first | rfl | (simp; done) | (simp [*]; done), by repeat (first | exact Drawn0.refl _ | apply Drawn0.step)⟩

/-! ### term_Nest_1: function 37 -/
def term_Nest_1.f (a0 : Int) (a1 : Int) : Option (Int) := (term_aggregate.f a0).bind fun t123 => (if t123 = true then (some (wrap64 (a1 + 1))) else (some a1))
set_option maxHeartbeats 6000000 in
set_option maxRecDepth 100000 in
theorem term_Nest_1.calls (a0 : Int) (a1 : Int) (r : Int) (w : World) (h : term_Nest_1.f a0 a1 = some r) :
    Calls Try.prog 37 #[.int .i64 a0, .int .i64 a1] w fun e w' => e = .returned (.int .i64 r) ∧ Drawn0 w w' := by
  have H : ((term_aggregate.f a0).bind fun t123 => (if t123 = true then (some (wrap64 (a1 + 1))) else (some a1))) = some r := h
  clear h
  replace H := Option.bind_eq_some_iff.mp H
  obtain ⟨t123, A30, H⟩ := H
  replace H : (if t123 = true then (some (wrap64 (a1 + 1))) else (some a1)) = some r := H
  have A3 := Aside0.mk A30
  clear A30
  by_cases c4 : t123 = true
  · subst c4
    have H1 : (some (wrap64 (a1 + 1))) = some r := by rw [if_pos rfl] at H; exact H
    clear H
    have H := H1
    clear H1
    obtain rfl := Option.some.inj H
    go_enter Try.func37, Try.ntmps37
    go_wp2_with (first | ((with_reducible refine gate_callee (f := 38) rfl ?_); refine goesL_ (some 6) rfl rfl Try.func38 (by kernel_rfl) rfl #[.int .i64 a0] rfl (by (try simp only [List.map_toArray, List.map_cons, List.map_nil]); first | done | rfl | (simp only [List.length_drop, List.length_take]; rfl)) ?_; (with_reducible refine (term_aggregate.calls a0 true _ A3.out).mono ?_); rintro e w' ⟨rfl, ⟨nd, rfl⟩⟩; refine ⟨_, rfl, ?_⟩))
    go_ret
    exact ⟨by first | rfl | (simp; done) | (simp [*]; done), by repeat (first | exact Drawn0.refl _ | apply Drawn0.step)⟩
  · replace c4 := Bool.eq_false_iff.mpr c4
    subst c4
    have H1 : (some a1) = some r := by rw [if_neg (show ¬ (false = true) by decide)] at H; exact H
    clear H
    have H := H1
    clear H1
    obtain rfl := Option.some.inj H
    go_enter Try.func37, Try.ntmps37
    go_wp2_with (first | ((with_reducible refine gate_callee (f := 38) rfl ?_); refine goesL_ (some 6) rfl rfl Try.func38 (by kernel_rfl) rfl #[.int .i64 a0] rfl (by (try simp only [List.map_toArray, List.map_cons, List.map_nil]); first | done | rfl | (simp only [List.length_drop, List.length_take]; rfl)) ?_; (with_reducible refine (term_aggregate.calls a0 false _ A3.out).mono ?_); rintro e w' ⟨rfl, ⟨nd, rfl⟩⟩; refine ⟨_, rfl, ?_⟩))
    go_ret
    exact ⟨by first | rfl | (simp; done) | (simp [*]; done), by repeat (first | exact Drawn0.refl _ | apply Drawn0.step)⟩

/-! ### term_fold_at_term_Nest_1: function 33 -/
mutual
def term_fold_at_term_Nest_1.l0 : Nat → List (S31) → List Int → Int → Option (Int)
  | 0, _, _, _ => none
  | k + 1, x0, x5, x6 => if x6 ≥ 0 then (if 0 ≤ x6 then (if x6 < (x0.length : Int) then ((term_Arity.f k ((rd_T31 x0 x6).f0)).bind fun t127 => (term_fold_at_term_Nest_1.l1 k x0 x5 x6 0 t127 0)) else (none)) else (none)) else (if 0 < (x5.length : Int) then (some (rd x5 0)) else (none))
def term_fold_at_term_Nest_1.l1 : Nat → List (S31) → List Int → Int → Int → Int → Int → Option (Int)
  | 0, _, _, _, _, _, _ => none
  | k + 1, x0, x5, x6, x7, x23, x24 => if x24 < x23 then (if 0 ≤ (wrap64 ((x5.length : Int) - 1)) then (if (wrap64 ((x5.length : Int) - 1)) < (x5.length : Int) then (if (wrap64 ((x5.length : Int) - 1)) ≤ (x5.length : Int) then (term_fold_at_term_Nest_1.l1 k x0 (x5.take ((wrap64 ((x5.length : Int) - 1)) : Int).toNat) x6 (mx x7 (rd x5 (wrap64 ((x5.length : Int) - 1)))) x23 (wrap64 (x24 + 1))) else (none)) else (none)) else (none)) else (if 0 ≤ x6 then (if x6 < (x0.length : Int) then ((term_Nest_1.f ((rd_T31 x0 x6).f0) x7).bind fun t133 => (if x5.length < 17592186044416 then (term_fold_at_term_Nest_1.l0 k x0 (x5 ++ [t133]) (wrap64 (x6 - 1))) else (none))) else (none)) else (none))
end
def term_fold_at_term_Nest_1.f (k : Nat) (l0 : List (S31))  : Option (Int) := (term_one.f k l0).bind fun t124 => (if t124 = true then (term_fold_at_term_Nest_1.l0 k l0 ([] : List Int) (wrap64 ((l0.length : Int) - 1))) else (some 0))
theorem term_fold_at_term_Nest_1.mono_l : ∀ k, (∀ y0 y1 y2, LeO (term_fold_at_term_Nest_1.l0 k y0 y1 y2) (term_fold_at_term_Nest_1.l0 (k + 1) y0 y1 y2)) ∧ (∀ y0 y1 y2 y3 y4 y5, LeO (term_fold_at_term_Nest_1.l1 k y0 y1 y2 y3 y4 y5) (term_fold_at_term_Nest_1.l1 (k + 1) y0 y1 y2 y3 y4 y5))
  | 0 => ⟨fun _ _ _ r h => by simp [term_fold_at_term_Nest_1.l0] at h, fun _ _ _ _ _ _ r h => by simp [term_fold_at_term_Nest_1.l1] at h⟩
  | k + 1 => by
    obtain ⟨ih0, ih1⟩ := term_fold_at_term_Nest_1.mono_l k
    refine ⟨?_, ?_⟩
    · intro y0 y1 y2
      unfold term_fold_at_term_Nest_1.l0
      repeat' first
      | (with_reducible exact ih0 _ _ _)
      | (with_reducible exact ih1 _ _ _ _ _ _)
      | (with_reducible exact term_Arity.mono _ _)
      | (with_reducible exact term_one.mono _ _)
      | (with_reducible exact LeO.refl _)
      | (with_reducible exact LeO.none _)
      | (with_reducible refine LeO.ite ?_ ?_)
      | (with_reducible refine LeO.bind ?_ (fun _ => ?_))
      | exact ih0 _ _ _
      | exact ih1 _ _ _ _ _ _
      | exact term_Arity.mono _ _
      | exact term_one.mono _ _
      | exact LeO.none _
      | refine LeO.ite ?_ ?_
      | refine LeO.bind ?_ (fun _ => ?_)
    · intro y0 y1 y2 y3 y4 y5
      unfold term_fold_at_term_Nest_1.l1
      repeat' first
      | (with_reducible exact ih0 _ _ _)
      | (with_reducible exact ih1 _ _ _ _ _ _)
      | (with_reducible exact term_Arity.mono _ _)
      | (with_reducible exact term_one.mono _ _)
      | (with_reducible exact LeO.refl _)
      | (with_reducible exact LeO.none _)
      | (with_reducible refine LeO.ite ?_ ?_)
      | (with_reducible refine LeO.bind ?_ (fun _ => ?_))
      | exact ih0 _ _ _
      | exact ih1 _ _ _ _ _ _
      | exact term_Arity.mono _ _
      | exact term_one.mono _ _
      | exact LeO.none _
      | refine LeO.ite ?_ ?_
      | refine LeO.bind ?_ (fun _ => ?_)
theorem term_fold_at_term_Nest_1.mono : ∀ a0 k, LeO (term_fold_at_term_Nest_1.f k a0) (term_fold_at_term_Nest_1.f (k + 1) a0) := by
  intro a0 k
  obtain ⟨ih0, ih1⟩ := term_fold_at_term_Nest_1.mono_l k
  unfold term_fold_at_term_Nest_1.f
  repeat' first
      | (with_reducible exact ih0 _ _ _)
      | (with_reducible exact ih1 _ _ _ _ _ _)
      | (with_reducible exact term_Arity.mono _ _)
      | (with_reducible exact term_one.mono _ _)
      | (with_reducible exact LeO.refl _)
      | (with_reducible exact LeO.none _)
      | (with_reducible refine LeO.ite ?_ ?_)
      | (with_reducible refine LeO.bind ?_ (fun _ => ?_))
      | exact ih0 _ _ _
      | exact ih1 _ _ _ _ _ _
      | exact term_Arity.mono _ _
      | exact term_one.mono _ _
      | exact LeO.none _
      | refine LeO.ite ?_ ?_
      | refine LeO.bind ?_ (fun _ => ?_)
set_option maxHeartbeats 6000000 in
set_option maxRecDepth 100000 in
theorem term_fold_at_term_Nest_1.calls (k : Nat) (A0 : Option Addr) (c0 : Nat) (l0 : List (S31))  (r : Int) (w : World) (hr0 : Kd.C k31 w A0 l0.length l0) (hc0 : l0.length ≤ c0) (h : term_fold_at_term_Nest_1.f k l0 = some r) :
    Calls Try.prog 33 #[.slice A0 l0.length c0, .func (.func 37) #[] #[]] w fun e w' => e = .returned (.int .i64 r) ∧ Below w.heap.size w w' := by
  have HR0 := Aside0.mk hr0
  have HC0 := Aside0.mk hc0
  clear hr0 hc0
  have HB := Aside0.mk (Below.refl w.heap.size w)
  have H : ((term_one.f k l0).bind fun t124 => (if t124 = true then (term_fold_at_term_Nest_1.l0 k l0 ([] : List Int) (wrap64 ((l0.length : Int) - 1))) else (some 0))) = some r := h
  clear h
  replace H := Option.bind_eq_some_iff.mp H
  obtain ⟨t124, A30, H⟩ := H
  replace H : (if t124 = true then (term_fold_at_term_Nest_1.l0 k l0 ([] : List Int) (wrap64 ((l0.length : Int) - 1))) else (some 0)) = some r := H
  have A3 := Aside0.mk A30
  clear A30
  by_cases c4 : t124 = true
  · subst c4
    have H1 : (term_fold_at_term_Nest_1.l0 k l0 ([] : List Int) (wrap64 ((l0.length : Int) - 1))) = some r := by rw [if_pos rfl] at H; exact H
    clear H
    have H := H1
    clear H1
    have H' := Aside0.mk H
    clear H
    go_enter Try.func33, Try.ntmps33
    go_wp2_with (first | ((with_reducible refine gate_callee (f := 40) rfl ?_); refine goesL_ (some 9) rfl rfl Try.func40 (by kernel_rfl) rfl #[.slice A0 l0.length c0] rfl (by (try simp only [List.map_toArray, List.map_cons, List.map_nil]); first | done | rfl | (simp only [List.length_drop, List.length_take]; rfl)) ?_; (with_reducible refine (term_one.calls k _ _ l0 true _ ?side1 ?side2 A3.out).mono ?_); (case side1 => repeat (first | exact HR0.out | (with_reducible refine Kd.C_alloc ?_ _) | (with_reducible refine Kd.C_drewN ?_ _) | (with_reducible refine Kd.C_drew ?_))); (case side2 => exact HC0.out); rintro e w' ⟨rfl, ⟨nd, rfl⟩⟩; refine ⟨_, rfl, ?_⟩))
    go_loopg [5, 6] k (fun kq v5 v6 w' => ∃ (x5_1 : List Int) (x6_1 : Int), v6 = .int .i64 x6_1 ∧ Aside0 (term_fold_at_term_Nest_1.l0 kq l0 x5_1 x6_1 = some r) ∧ Aside0 (kq ≤ k) ∧ Aside0 (Kd.R (Kd.int .i64) 3 w' w.heap.size (fun _ => True) v5 x5_1) ∧ Aside0 (Below w.heap.size w w'))
    case atStart => exact ⟨(([] : List Int)), (wrap64 ((l0.length : Int) - 1)), (by first | rfl | (simp; done) | (simp [*]; done)), H', ⟨Nat.le_refl _⟩, ⟨by first | exact Kd.R_nil _ _ _ _ _ | exact Kd.N_nil _ _ _ _ _ | exact Kd.V_nil _ _ _ _ _ | exact Kd.Q_nil _ _ _ _ _ | exact Kd.S_nil _ _ _ _ _⟩, ⟨by repeat (first | (with_reducible first | exact HB.out | apply below_alloc | apply pw_below_drewN | apply below_drew1) | exact HB.out)⟩⟩
    case round =>
      clear H'
      try clear p2
      try clear c4
      obtain ⟨x5_1, x6_1, rfl, HA, HK1, HO_5, HB⟩ := hrel
      cases gk with
      | zero => exact absurd HA.out (by simp [term_fold_at_term_Nest_1.l0])
      | succ k1 =>
        have H := HA.out
        clear HA
        simp only [term_fold_at_term_Nest_1.l0] at H
        by_cases c5 : x6_1 ≥ 0
        · rw [if_pos c5] at H
          have c5b0 : decide (0 ≤ x6_1) = true := decide_eq_true c5
          clear c5
          by_cases c6 : 0 ≤ x6_1
          · rw [if_pos c6] at H
            have c6b0 : decide (0 ≤ x6_1) = true := decide_eq_true c6
            clear c6
            by_cases c7 : x6_1 < (l0.length : Int)
            · rw [if_pos c7] at H
              have c7b0 : decide (x6_1 < (l0.length : Int)) = true := decide_eq_true c7
              clear c7
              replace H := Option.bind_eq_some_iff.mp H
              obtain ⟨t127, A80, H⟩ := H
              replace H : (term_fold_at_term_Nest_1.l1 k1 l0 x5_1 x6_1 0 t127 0) = some r := H
              have A8 := Aside0.mk A80
              clear A80
              have H' := Aside0.mk H
              clear H
              have p126 : 0 ≤ (x6_1 : Int) := of_decide_eq_true (by first | (with_reducible assumption) | assumption)
              have q126 : x6_1 < (l0.length : Int) := of_decide_eq_true (by first | (with_reducible assumption) | assumption)
              obtain ⟨ad126, e126, hx126_0, hx126_1⟩ := at_T31 HR0.out x6_1 p126 q126
              cases e126
              replace hx126_0 := (HB.out.cell (World.block_lt_of_cell? w _ hx126_0)).trans hx126_0
              replace hx126_1 := (HB.out.cell (World.block_lt_of_cell? w _ hx126_1)).trans hx126_1
              replace p126 := eq_true p126
              replace q126 := eq_true q126
              go_wp2_with (first | ((with_reducible refine gate_callee (f := 12) rfl ?_); refine goesL_ (some 23) rfl rfl Try.func12 (by kernel_rfl) rfl #[.int .i64 ((rd_T31 l0 x6_1).f0)] rfl (by (try simp only [List.map_toArray, List.map_cons, List.map_nil]); first | done | rfl | (simp only [List.length_drop, List.length_take]; rfl)) ?_; (with_reducible refine (term_Arity.calls k1 ((rd_T31 l0 x6_1).f0) t127 _ A8.out).mono ?_); rintro e w' ⟨rfl, ⟨nd, rfl⟩⟩; refine ⟨_, rfl, ?_⟩))
              go_loopg [5, 7, 24] k1 (fun kq v5 v7 v24 w' => ∃ (x5_2 : List Int) (x7_2 : Int) (x24_2 : Int), v7 = .int .i64 x7_2 ∧ v24 = .int .i64 x24_2 ∧ Aside0 (term_fold_at_term_Nest_1.l1 kq l0 x5_2 x6_1 x7_2 t127 x24_2 = some r) ∧ Aside0 (kq ≤ k1) ∧ Aside0 (Kd.R (Kd.int .i64) 3 w' w.heap.size (fun _ => True) v5 x5_2) ∧ Aside0 (Below w.heap.size w w'))
              case atStart => exact ⟨(x5_1), (0), (0), (by first | rfl | (simp; done) | (simp [*]; done)), (by first | rfl | (simp; done) | (simp [*]; done)), H', ⟨Nat.le_refl _⟩, ⟨by (with_reducible repeat (first | apply Kd.R_alloc | apply Kd.R_drewN | apply Kd.R_drew)); exact HO_5.out⟩, ⟨by repeat (first | (with_reducible first | exact HB.out | apply below_alloc | apply pw_below_drewN | apply below_drew1) | exact HB.out)⟩⟩
              case round =>
                clear H'
                try clear c1
                try clear p1
                try clear q1
                try clear hx1
                try clear p2
                try clear c4
                try clear c5
                try clear c5b0
                try clear c6
                try clear c6b0
                try clear p6
                try clear c7
                try clear c7b0
                try clear hx126_0
                try clear hx126_1
                try clear p126
                try clear p2
                try clear q126
                obtain ⟨x5_2, x7_2, x24_2, rfl, rfl, HA, HK2, HO_5, HB⟩ := hrel
                cases gk with
                | zero => exact absurd HA.out (by simp [term_fold_at_term_Nest_1.l1])
                | succ k2 =>
                  have H := HA.out
                  clear HA
                  simp only [term_fold_at_term_Nest_1.l1] at H
                  by_cases c9 : x24_2 < t127
                  · rw [if_pos c9] at H
                    have c9b0 : decide (x24_2 < t127) = true := decide_eq_true c9
                    clear c9
                    obtain ⟨ji10, hji10⟩ : ∃ j_ : Int, (wrap64 ((x5_2.length : Int) - 1)) = j_ := ⟨_, rfl⟩
                    replace H : (if 0 ≤ (ji10) then (if (ji10) < (x5_2.length : Int) then (if (ji10) ≤ (x5_2.length : Int) then (term_fold_at_term_Nest_1.l1 k2 l0 (x5_2.take ((ji10) : Int).toNat) x6_1 (mx x7_2 (rd x5_2 (ji10))) t127 (wrap64 (x24_2 + 1))) else (none)) else (none)) else (none)) = some r := by first | (rw [hji10] at H; exact H) | (simp only [hji10] at H ⊢; exact H)
                    have hji10w : (IntKind.i64.wrap ((x5_2.length : Int) - 1)) = ji10 := (i64_w _).trans hji10
                    by_cases c11 : 0 ≤ (ji10)
                    · rw [if_pos c11] at H
                      have c11b0 : decide (0 ≤ (ji10)) = true := decide_eq_true c11
                      clear c11
                      by_cases c12 : (ji10) < (x5_2.length : Int)
                      · rw [if_pos c12] at H
                        have c12b0 : decide ((ji10) < (x5_2.length : Int)) = true := decide_eq_true c12
                        clear c12
                        obtain ⟨ji13, hji13⟩ : ∃ j_ : Int, (mx x7_2 (rd x5_2 (ji10))) = j_ := ⟨_, rfl⟩
                        replace H : (if (ji10) ≤ (x5_2.length : Int) then (term_fold_at_term_Nest_1.l1 k2 l0 (x5_2.take ((ji10) : Int).toNat) x6_1 ji13 t127 (wrap64 (x24_2 + 1))) else (none)) = some r := by first | (rw [hji13] at H; exact H) | (simp only [hji13] at H ⊢; exact H)
                        have hji13_ : (if x7_2 < (rd x5_2 (ji10)) then (rd x5_2 (ji10)) else x7_2) = ji13 := hji13
                        by_cases c14 : (ji10) ≤ (x5_2.length : Int)
                        · rw [if_pos c14] at H
                          have c14b0 := eq_true c14
                          have c14b1 : decide ((ji10) ≤ (x5_2.length : Int)) = true := decide_eq_true c14
                          clear c14
                          obtain ⟨y129, hy129⟩ : ∃ y_ : List Int, y_ = (x5_2.take ((ji10) : Int).toNat) := ⟨_, rfl⟩
                          replace H : (term_fold_at_term_Nest_1.l1 k2 l0 y129 x6_1 ji13 t127 (wrap64 (x24_2 + 1))) = some r := by first | (rw [hy129]; with_reducible exact H) | (have H2_ := (Option.bind_some _ _).symm.trans H; rw [hy129]; with_reducible exact H2_) | (have H2_ := (Option.bind_some _ _).symm.trans H; with_reducible exact H2_) | with_reducible exact H | (rw [hy129]; exact H) | exact H
                          have Ny129 := Aside0.mk hy129
                          clear hy129
                          have H' := Aside0.mk H
                          clear H
                          obtain ⟨Ao15, co15, eo15⟩ := Kd.R_slice HO_5.out
                          subst eo15
                          have p128 : 0 ≤ ((ji10) : Int) := of_decide_eq_true (by first | (with_reducible assumption) | assumption)
                          have q128 : (ji10) < (x5_2.length : Int) := of_decide_eq_true (by first | (with_reducible assumption) | assumption)
                          obtain ⟨ad128, e128, hx128_0⟩ := Kd.at_int (Kd.R_reads' HO_5.out).2.2 (ji10) p128 q128
                          cases e128
                          replace p128 := eq_true p128
                          replace q128 := eq_true q128
                          have q16 : ((ji10) : Int) ≤ ((x5_2.length : Int) : Int) := of_decide_eq_true (by first | (with_reducible assumption) | assumption)
                          obtain ⟨i016, hi016, _, hsz16, _⟩ := info_parts info3
                          have hcut16 := cut_to (P := Try.prog) 37 3 .i64 Try.underlying37 hi016 (some ad128) x5_2.length co15 (ji10) (of_decide_eq_true (by first | (with_reducible assumption) | assumption)) q16 (Kd.R_reads' HO_5.out).2.1
                          have hr16 := Kd.R_take (m := ((ji10) : Int).toNat) HO_5.out (by omega)
                          have hy16 : y129.length = ((ji10) : Int).toNat := (by rw [Ny129.out, List.length_take]; omega)
                          rw [← Ny129.out] at hr16
                          rw [← hy16] at hr16 hcut16
                          clear hy16 hi016 hsz16 HO_5
                          have HO131 := Aside0.mk hr16
                          clear hr16
                          replace q16 := eq_true q16
                          go_wp2
                          go_roundg k2
                          case measure => have := HK1.out; have := HK2.out; omega
                          case rel => exact ⟨(y129), (ji13), (wrap64 (x24_2 + 1)), (by first | rfl | (simp; done) | (simp only [← hji13] <;> (first | rfl | simp)) | (simp [*]; done)), (by first | rfl | (simp; done) | (simp [*]; done)), H', ⟨by have := HK1.out; have := HK2.out; omega⟩, ⟨by (with_reducible repeat (first | apply Kd.R_alloc | apply Kd.R_drewN | apply Kd.R_drew)); exact HO131.out⟩, ⟨by repeat (first | (with_reducible first | exact HB.out | apply below_alloc | apply pw_below_drewN | apply below_drew1) | exact HB.out)⟩⟩
                        · rw [if_neg c14] at H
                          exact absurd H (by simp)
                      · rw [if_neg c12] at H
                        exact absurd H (by simp)
                    · rw [if_neg c11] at H
                      exact absurd H (by simp)
                  · rw [if_neg c9] at H
                    have c9b0 : decide (x24_2 < t127) = false := decide_eq_false c9
                    clear c9
                    by_cases c17 : 0 ≤ x6_1
                    · rw [if_pos c17] at H
                      have c17b0 : decide (0 ≤ x6_1) = true := decide_eq_true c17
                      clear c17
                      by_cases c18 : x6_1 < (l0.length : Int)
                      · rw [if_pos c18] at H
                        have c18b0 : decide (x6_1 < (l0.length : Int)) = true := decide_eq_true c18
                        clear c18
                        replace H := Option.bind_eq_some_iff.mp H
                        obtain ⟨t133, A190, H⟩ := H
                        replace H : (if x5_2.length < 17592186044416 then (term_fold_at_term_Nest_1.l0 k2 l0 (x5_2 ++ [t133]) (wrap64 (x6_1 - 1))) else (none)) = some r := H
                        have A19 := Aside0.mk A190
                        clear A190
                        by_cases c20 : x5_2.length < 17592186044416
                        · rw [if_pos c20] at H
                          have LMc20 := Aside0.mk c20
                          clear c20
                          obtain ⟨y134, hy134⟩ : ∃ y_ : List Int, y_ = (x5_2 ++ [t133]) := ⟨_, rfl⟩
                          replace H : (term_fold_at_term_Nest_1.l0 k2 l0 y134 (wrap64 (x6_1 - 1))) = some r := by first | (rw [hy134]; with_reducible exact H) | (have H2_ := (Option.bind_some _ _).symm.trans H; rw [hy134]; with_reducible exact H2_) | (have H2_ := (Option.bind_some _ _).symm.trans H; with_reducible exact H2_) | with_reducible exact H | (rw [hy134]; exact H) | exact H
                          have Ny134 := Aside0.mk hy134
                          clear hy134
                          have H' := Aside0.mk H
                          clear H
                          have p132 : 0 ≤ (x6_1 : Int) := of_decide_eq_true (by first | (with_reducible assumption) | assumption)
                          have q132 : x6_1 < (l0.length : Int) := of_decide_eq_true (by first | (with_reducible assumption) | assumption)
                          obtain ⟨ad132, e132, hx132_0, hx132_1⟩ := at_T31 HR0.out x6_1 p132 q132
                          obtain rfl : ad126 = ad132 := (by injection e132)
                          replace hx132_0 := (HB.out.cell (World.block_lt_of_cell? w _ hx132_0)).trans hx132_0
                          replace hx132_1 := (HB.out.cell (World.block_lt_of_cell? w _ hx132_1)).trans hx132_1
                          replace p132 := eq_true p132
                          replace q132 := eq_true q132
                          go_wp2_with (first | (go_at_call 37; (with_reducible refine (term_Nest_1.calls ((rd_T31 l0 x6_1).f0) x7_2 t133 _ A19.out).mono ?_); rintro e w' ⟨rfl, ⟨nd, rfl⟩⟩) | ((with_reducible refine gate_builtin (b := .append) (xs := #[.tmp 40, .tmp 49]) rfl ?_); at_builtin; refine Kd.R_append (Kd.int .i64) (w0 := w) w.heap.size rfl (.tmp 40) (.tmp 49) 37 3 (.int .i64 0) 8 rfl Try.underlying37 info3 rfl (by decide) (by omega) u5 x5_2 t133 [.int .i64 t133] (fun _ => True) (fun _ => False) rfl rfl ?aP (fun _ hk => hk.elim) ?aF ?aO ?aB ?aS ?aL ?_; (case aP => exact rfl); (case aB => exact (by repeat (first | (with_reducible first | exact HB.out | apply below_alloc | apply pw_below_drewN | apply below_drew1) | exact HB.out))); (case aF => exact (fun _ _ => trivial)); (case aO => exact (by (with_reducible repeat (first | apply Kd.R_alloc | apply Kd.R_drewN | apply Kd.R_drew)); exact HO_5.out)); (case aS => exact (below_size (by repeat (first | (with_reducible first | exact HB.out | apply below_alloc | apply pw_below_drewN | apply below_drew1) | exact HB.out)))); (case aL => have := LMc20.out; omega); intro v135 w21 ho hb hg hat; rw [← Ny134.out] at ho; have n0_ := Aside0.mk (hb); have n1_ := Aside0.mk (ho); clear HB; clear HO_5; have HB := n0_; have HO136 := n1_; clear n0_ n1_; clear ho hb hg hat))
                          go_roundg k2
                          case measure => have := HK1.out; have := HK2.out; omega
                          case rel => exact ⟨(y134), (wrap64 (x6_1 - 1)), (by first | rfl | (simp; done) | (simp [*]; done)), H', ⟨by have := HK1.out; have := HK2.out; omega⟩, ⟨by (with_reducible repeat (first | apply Kd.R_alloc | apply Kd.R_drewN | apply Kd.R_drew)); exact HO136.out⟩, ⟨by repeat (first | (with_reducible first | exact HB.out | apply below_alloc | apply pw_below_drewN | apply below_drew1) | exact HB.out)⟩⟩
                        · rw [if_neg c20] at H
                          exact absurd H (by simp)
                      · rw [if_neg c18] at H
                        exact absurd H (by simp)
                    · rw [if_neg c17] at H
                      exact absurd H (by simp)
            · rw [if_neg c7] at H
              exact absurd H (by simp)
          · rw [if_neg c6] at H
            exact absurd H (by simp)
        · rw [if_neg c5] at H
          have c5b0 : decide (0 ≤ x6_1) = false := decide_eq_false c5
          clear c5
          by_cases c22 : 0 < (x5_1.length : Int)
          · rw [if_pos c22] at H
            have c22b0 : decide (0 < (x5_1.length : Int)) = true := decide_eq_true c22
            have c22b1 : decide (0 < x5_1.length) = true := decide_eq_true (by omega)
            clear c22
            obtain rfl := Option.some.inj H
            obtain ⟨Ao23, co23, eo23⟩ := Kd.R_slice HO_5.out
            subst eo23
            have p125 : 0 ≤ (0 : Int) := (by omega)
            have q125 : 0 < (x5_1.length : Int) := of_decide_eq_true (by first | (with_reducible assumption) | assumption)
            obtain ⟨ad125, e125, hx125_0⟩ := Kd.at_int (Kd.R_reads' HO_5.out).2.2 0 p125 q125
            cases e125
            have qi125 : (0 < x5_1.length) = True := eq_true (by omega)
            (try rw [show ((0 : Int)).toNat = 0 from rfl] at hx125_0)
            (try rw [Addr.add_zero'] at hx125_0)
            replace p125 := eq_true p125
            replace q125 := eq_true q125
            go_wp2
            go_ret
            exact ⟨by first | rfl | (simp [errW_none, errW_some] <;> rfl) | (simp [*, errW_none, errW_some] <;> rfl), by repeat (first | (with_reducible first | exact HB.out | apply below_alloc | apply pw_below_drewN | apply below_drew1) | exact HB.out)⟩
          · rw [if_neg c22] at H
            exact absurd H (by simp)
  · replace c4 := Bool.eq_false_iff.mpr c4
    subst c4
    have H1 : (some 0) = some r := by rw [if_neg (show ¬ (false = true) by decide)] at H; exact H
    clear H
    have H := H1
    clear H1
    obtain rfl := Option.some.inj H
    go_enter Try.func33, Try.ntmps33
    go_wp2_with (first | ((with_reducible refine gate_callee (f := 40) rfl ?_); refine goesL_ (some 9) rfl rfl Try.func40 (by kernel_rfl) rfl #[.slice A0 l0.length c0] rfl (by (try simp only [List.map_toArray, List.map_cons, List.map_nil]); first | done | rfl | (simp only [List.length_drop, List.length_take]; rfl)) ?_; (with_reducible refine (term_one.calls k _ _ l0 false _ ?side1 ?side2 A3.out).mono ?_); (case side1 => repeat (first | exact HR0.out | (with_reducible refine Kd.C_alloc ?_ _) | (with_reducible refine Kd.C_drewN ?_ _) | (with_reducible refine Kd.C_drew ?_))); (case side2 => exact HC0.out); rintro e w' ⟨rfl, ⟨nd, rfl⟩⟩; refine ⟨_, rfl, ?_⟩))
    go_ret
    exact ⟨by first | rfl | (simp [errW_none, errW_some] <;> rfl) | (simp [*, errW_none, errW_some] <;> rfl), by repeat (first | (with_reducible first | exact HB.out | apply below_alloc | apply pw_below_drewN | apply below_drew1) | exact HB.out)⟩

/-! ### term_Nest: function 20 -/
def term_Nest.f (k : Nat) (l0 : List (S31)) : Option (Int) := (term_fold_at_term_Nest_1.f k l0).bind fun t137 => (some t137)
theorem term_Nest.mono : ∀ a0 k, LeO (term_Nest.f k a0) (term_Nest.f (k + 1) a0) := by
  intro a0 k
  unfold term_Nest.f
  repeat' first
      | (with_reducible exact term_fold_at_term_Nest_1.mono _ _)
      | (with_reducible exact LeO.refl _)
      | (with_reducible exact LeO.none _)
      | (with_reducible refine LeO.ite ?_ ?_)
      | (with_reducible refine LeO.bind ?_ (fun _ => ?_))
      | exact term_fold_at_term_Nest_1.mono _ _
      | exact LeO.none _
      | refine LeO.ite ?_ ?_
      | refine LeO.bind ?_ (fun _ => ?_)
set_option maxHeartbeats 6000000 in
set_option maxRecDepth 100000 in
theorem term_Nest.calls (k : Nat) (A0 : Option Addr) (c0 : Nat) (l0 : List (S31)) (r : Int) (w : World) (hr0 : Kd.C k31 w A0 l0.length l0) (hc0 : l0.length ≤ c0) (h : term_Nest.f k l0 = some r) :
    Calls Try.prog 20 #[.slice A0 l0.length c0] w fun e w' => e = .returned (.int .i64 r) ∧ Below w.heap.size w w' := by
  have HR0 := Aside0.mk hr0
  have HC0 := Aside0.mk hc0
  clear hr0 hc0
  have HB := Aside0.mk (Below.refl w.heap.size w)
  have H : ((term_fold_at_term_Nest_1.f k l0).bind fun t137 => (some t137)) = some r := h
  clear h
  replace H := Option.bind_eq_some_iff.mp H
  obtain ⟨t137, A20, H⟩ := H
  replace H : (some t137) = some r := H
  have A2 := Aside0.mk A20
  clear A20
  obtain rfl := Option.some.inj H
  go_enter Try.func20, Try.ntmps20
  go_wp2_with (first | ((with_reducible refine gate_callee (f := 33) rfl ?_); refine goesL_ (some 4) rfl rfl Try.func33 (by kernel_rfl) rfl #[.slice A0 l0.length c0, .func (.func 37) #[] #[]] rfl (by (try simp only [List.map_toArray, List.map_cons, List.map_nil]); first | done | rfl | (simp only [List.length_drop, List.length_take]; rfl)) ?_; (with_reducible refine (term_fold_at_term_Nest_1.calls k _ _ l0  t137 _ ?side1 ?side2 A2.out).mono ?_); (case side1 => repeat (first | exact HR0.out | (with_reducible refine Kd.C_alloc ?_ _) | (with_reducible refine Kd.C_drewN ?_ _) | (with_reducible refine Kd.C_drew ?_))); (case side2 => exact HC0.out); rintro e w3 ⟨rfl, hb⟩; refine ⟨_, rfl, ?_⟩; have n0_ := Aside0.mk (below_step (by repeat (first | (with_reducible first | exact HB.out | apply below_alloc | apply pw_below_drewN | apply below_drew1) | exact HB.out)) hb); clear HB; have HB := n0_; clear n0_; (try clear hb); (try clear hb2); (try clear hk); (try clear hi)))
  go_ret
  exact ⟨by first | rfl | (simp [errW_none, errW_some] <;> rfl) | (simp [*, errW_none, errW_some] <;> rfl), by repeat (first | (with_reducible first | exact HB.out | apply below_alloc | apply pw_below_drewN | apply below_drew1) | exact HB.out)⟩

/-! ### term_limit: function 41 -/
def term_limit.f (a0 : Int) (a1 : Int) : Option (Int) := if a0 = 1 then (some 1073741824) else (if a0 = 5 then (some (wrap64 (a1 - 1))) else (if a0 = 12 then (some (wrap64 (a1 - 1))) else (some 0)))
set_option maxHeartbeats 6000000 in
set_option maxRecDepth 100000 in
theorem term_limit.calls (a0 : Int) (a1 : Int) (r : Int) (w : World) (h : term_limit.f a0 a1 = some r) :
    Calls Try.prog 41 #[.int .i64 a0, .int .i64 a1] w fun e w' => e = .returned (.int .i64 r) ∧ Drawn0 w w' := by
  have H : (if a0 = 1 then (some 1073741824) else (if a0 = 5 then (some (wrap64 (a1 - 1))) else (if a0 = 12 then (some (wrap64 (a1 - 1))) else (some 0)))) = some r := h
  clear h
  by_cases c3 : a0 = 1
  · rw [if_pos c3] at H
    have c3b0 : (a0 == 1) = true := beq_iff_eq.mpr c3
    have c3b1 : (a0 != 1) = false := bne_eq_false_iff_eq.mpr c3
    clear c3
    obtain rfl := Option.some.inj H
    go_enter Try.func41, Try.ntmps41
    go_wp2
    go_ret
    exact ⟨by first | rfl | (simp; done) | (simp [*]; done), by repeat (first | exact Drawn0.refl _ | apply Drawn0.step)⟩
  · rw [if_neg c3] at H
    have c3b0 : (a0 == 1) = false := beq_eq_false_iff_ne.mpr c3
    have c3b1 : (a0 != 1) = true := bne_iff_ne.mpr c3
    by_cases c4 : a0 = 5
    · rw [if_pos c4] at H
      have c4b0 : (a0 == 5) = true := beq_iff_eq.mpr c4
      have c4b1 : (a0 != 5) = false := bne_eq_false_iff_eq.mpr c4
      clear c4
      obtain rfl := Option.some.inj H
      go_enter Try.func41, Try.ntmps41
      go_wp2
      go_ret
      exact ⟨by first | rfl | (simp; done) | (simp [*]; done), by repeat (first | exact Drawn0.refl _ | apply Drawn0.step)⟩
    · rw [if_neg c4] at H
      have c4b0 : (a0 == 5) = false := beq_eq_false_iff_ne.mpr c4
      have c4b1 : (a0 != 5) = true := bne_iff_ne.mpr c4
      by_cases c5 : a0 = 12
      · rw [if_pos c5] at H
        have c5b0 : (a0 == 12) = true := beq_iff_eq.mpr c5
        have c5b1 : (a0 != 12) = false := bne_eq_false_iff_eq.mpr c5
        clear c5
        obtain rfl := Option.some.inj H
        go_enter Try.func41, Try.ntmps41
        go_wp2
        go_ret
        exact ⟨by first | rfl | (simp; done) | (simp [*]; done), by repeat (first | exact Drawn0.refl _ | apply Drawn0.step)⟩
      · rw [if_neg c5] at H
        have c5b0 : (a0 == 12) = false := beq_eq_false_iff_ne.mpr c5
        have c5b1 : (a0 != 12) = true := bne_iff_ne.mpr c5
        obtain rfl := Option.some.inj H
        go_enter Try.func41, Try.ntmps41
        go_wp2
        go_ret
        exact ⟨by first | rfl | (simp; done) | (simp [*]; done), by repeat (first | exact Drawn0.refl _ | apply Drawn0.step)⟩

end Go.Proofs.Ytbjigmgiecgolaa.P
