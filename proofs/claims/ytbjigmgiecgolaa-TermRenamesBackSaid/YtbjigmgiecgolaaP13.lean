-- made by a program of mine (wip/tools/pp.py over the kit's print)
import Derived.Test.YtbjigmgiecgolaaP0
import Derived.Test.YtbjigmgiecgolaaP2
import Derived.Test.YtbjigmgiecgolaaP4
import Derived.Test.YtbjigmgiecgolaaP8
import Derived.Test.YtbjigmgiecgolaaP11
import Derived.Test.YtbjigmgiecgolaaP12
namespace Go.Proofs.Ytbjigmgiecgolaa.P
open Go.RowKit Go.Proofs.YtbjigmgiecgolaaW.PrintWords Go.Proofs.YtbjigmgiecgolaaW.PrintLast Go.Proofs.YtbjigmgiecgolaaW.PrintMore
attribute [local go_sem] max2_int min2_int max_two min_two max_three min_three max_four min_four   -- for this text's walks alone
set_option linter.unusedVariables false
set_option linter.unusedSimpArgs false

/-! ### selfstablaw05_permutation: function 31 -/
def selfstablaw05_permutation.l0 : Nat → List Int → List Int → Int → Option (List Int)
  | 0, _, _, _ => none
  | k + 1, x0, x3, x4 => if x4 < (x0.length : Int) then (if x4 < (x3.length : Int) then (if 0 ≤ x4 then ((selfstabmade_Mod.f (rd x0 x4) (x3.length : Int)).bind fun t344 => (if 0 ≤ t344 then (if t344 < (x3.length : Int) then (selfstablaw05_permutation.l0 k x0 ((x3.set (x4 : Int).toNat (rd x3 t344)).set (t344 : Int).toNat (rd x3 x4)) (wrap64 (x4 + 1))) else (none)) else (none))) else (none)) else (some x3)) else (some x3)
def selfstablaw05_permutation.f (k : Nat) (l0 : List Int) : Option (List Int) := selfstablaw05_permutation.l0 k l0 (([0, 1, 2, 3, 4, 5] : List Int)) 0
theorem selfstablaw05_permutation.mono_l : ∀ k, (∀ y0 y1 y2, LeO (selfstablaw05_permutation.l0 k y0 y1 y2) (selfstablaw05_permutation.l0 (k + 1) y0 y1 y2))
  | 0 => fun _ _ _ r h => by simp [selfstablaw05_permutation.l0] at h
  | k + 1 => by
    have ih0 := selfstablaw05_permutation.mono_l k
    · intro y0 y1 y2
      unfold selfstablaw05_permutation.l0
      repeat' first
      | (with_reducible exact ih0 _ _ _)
      | (with_reducible exact LeO.refl _)
      | (with_reducible exact LeO.none _)
      | (with_reducible refine LeO.ite ?_ ?_)
      | (with_reducible refine LeO.bind ?_ (fun _ => ?_))
      | exact ih0 _ _ _
      | exact LeO.none _
      | refine LeO.ite ?_ ?_
      | refine LeO.bind ?_ (fun _ => ?_)
theorem selfstablaw05_permutation.mono : ∀ a0 k, LeO (selfstablaw05_permutation.f k a0) (selfstablaw05_permutation.f (k + 1) a0) := by
  intro a0 k
  have ih0 := selfstablaw05_permutation.mono_l k
  unfold selfstablaw05_permutation.f
  repeat' first
      | (with_reducible exact ih0 _ _ _)
      | (with_reducible exact LeO.refl _)
      | (with_reducible exact LeO.none _)
      | (with_reducible refine LeO.ite ?_ ?_)
      | (with_reducible refine LeO.bind ?_ (fun _ => ?_))
      | exact ih0 _ _ _
      | exact LeO.none _
      | refine LeO.ite ?_ ?_
      | refine LeO.bind ?_ (fun _ => ?_)
def selfstablaw05_permutation.T6 : Bool × List (List Nat × List Nat) := (true, [([], []), ([], []), ([], []), ([], []), ([], []), ([], []), ([4, 5], [4, 5]), ([6], [6]), ([], []), ([], []), ([8, 9], [8, 9]), ([10], [10]), ([0, 1, 0, 1, 4, 5, 6, 7, 11], [0, 1]), ([12, 7, 0, 1, 4, 5, 6, 7, 11], [7, 12]), ([2, 3, 0, 1, 2, 3, 4, 5, 6, 7, 8, 9, 10, 11, 12, 13], [2, 3]), ([14, 11, 13, 0, 1, 2, 3, 4, 5, 6, 7, 8, 9, 10, 11, 12, 13], [11, 14])])
def selfstablaw05_permutation.B6 : List Nat := [0, 0, 0, 0, 0, 0, 48, 112, 0, 0, 768, 1792, 4083, 8179, 16383, 32767]
theorem selfstablaw05_permutation.tab6 : rtab .any (opsOf Try.f31 6) = selfstablaw05_permutation.T6 := by kernel_rfl
theorem selfstablaw05_permutation.bits6 : waitsOk selfstablaw05_permutation.T6.2 selfstablaw05_permutation.B6 = true := by kernel_rfl
set_option maxHeartbeats 6000000 in
set_option maxRecDepth 100000 in
theorem selfstablaw05_permutation.calls (k : Nat) (A0 : Option Addr) (c0 : Nat) (l0 : List Int) (r : List Int) (w : World) (hr0 : Kd.C (Kd.int .i64) w A0 l0.length l0) (hc0 : l0.length ≤ c0) (h : selfstablaw05_permutation.f k l0 = some r) :
    Calls Try.prog 31 #[.slice A0 l0.length c0] w fun e w' => ∃ v0_ : Value, e = .returned (v0_) ∧ Kd.R (Kd.int .i64) 3 w' w.heap.size (fun _ => True) v0_ r ∧ Below w.heap.size w w' := by
  have HR0 := Aside0.mk hr0
  have HC0 := Aside0.mk hc0
  clear hr0 hc0
  have HB := Aside0.mk (Below.refl w.heap.size w)
  have H : (selfstablaw05_permutation.l0 k l0 (([0, 1, 2, 3, 4, 5] : List Int)) 0) = some r := h
  clear h
  obtain ⟨y340, hy340⟩ : ∃ y_ : List Int, y_ = (([0, 1, 2, 3, 4, 5] : List Int)) := ⟨_, rfl⟩
  replace H : (selfstablaw05_permutation.l0 k l0 y340 0) = some r := by first | (rw [hy340]; with_reducible exact H) | (have H2_ := (Option.bind_some _ _).symm.trans H; rw [hy340]; with_reducible exact H2_) | (have H2_ := (Option.bind_some _ _).symm.trans H; with_reducible exact H2_) | with_reducible exact H | (rw [hy340]; exact H) | exact H
  have Ny340 := Aside0.mk hy340
  clear hy340
  have H' := Aside0.mk H
  clear H
  go_enter Try.func31, Try.ntmps31
  go_wp2_with (first | ((with_reducible refine gate_dst (N := 6) rfl ?_); (try (refine gate_guard (by rfl) ?_; dsimp only)); refine Kd.R_lit (Kd.int .i64) _ 3 ?hg (N := 6) ?hd (xs := ([0, 1, 2, 3, 4, 5] : List Int)) (inner := [.int .i64 0, .int .i64 1, .int .i64 2, .int .i64 3, .int .i64 4, .int .i64 5]) (ok := fun _ => True) (okp := fun _ => True) ?hr ?hp (fun _ hk => hk) trivial (Below.refl _ _) (Nat.le_refl _) (by simp) ?_; (case hd => rfl); (case hg => rfl); (case hr => first | (go_simp; done) | (go_simp; rfl)); (case hp => exact (Reps.one (show Kd.M (Kd.int .i64) _ _ _ 0 [.int .i64 0] from rfl) (Reps.one (show Kd.M (Kd.int .i64) _ _ _ 1 [.int .i64 1] from rfl) (Reps.one (show Kd.M (Kd.int .i64) _ _ _ 2 [.int .i64 2] from rfl) (Reps.one (show Kd.M (Kd.int .i64) _ _ _ 3 [.int .i64 3] from rfl) (Reps.one (show Kd.M (Kd.int .i64) _ _ _ 4 [.int .i64 4] from rfl) (Reps.one (show Kd.M (Kd.int .i64) _ _ _ 5 [.int .i64 5] from rfl) (Reps.none _ _)))))))); intro v341 w2 ho3 hb hg_ hnew_; clear hg_ hnew_; (first | rw [← Ny340.out] at ho3 | (simp only [Int.reduceToNat] at ho3; rw [← Ny340.out] at ho3)); have n0_ := Aside0.mk (Kd.R_lower ho3 (below_size (by repeat (first | (with_reducible first | exact HB.out | apply below_alloc | apply pw_below_drewN | apply below_drew1) | exact HB.out)))); have n1_ := Aside0.mk (below_step (by repeat (first | (with_reducible first | exact HB.out | apply below_alloc | apply pw_below_drewN | apply below_drew1) | exact HB.out)) hb); clear HB; have HO342 := n0_; have HB := n1_; clear n0_ n1_; clear hb ho3))
  go_loopg [4] k (fun kq v4 w' => ∃ (x3_1 : List Int) (x4_1 : Int), v4 = .int .i64 x4_1 ∧ Aside0 (selfstablaw05_permutation.l0 kq l0 x3_1 x4_1 = some r) ∧ Aside0 (kq ≤ k) ∧ Aside0 (Kd.R (Kd.int .i64) 3 w' w.heap.size (fun _ => True) v341 x3_1) ∧ Aside0 (Below w.heap.size w w'))
  case atStart => exact ⟨(y340), (0), (by first | rfl | (simp; done) | (simp [*]; done)), H', ⟨Nat.le_refl _⟩, ⟨by (with_reducible repeat (first | apply Kd.R_alloc | apply Kd.R_drewN | apply Kd.R_drew)); exact HO342.out⟩, ⟨by repeat (first | (with_reducible first | exact HB.out | apply below_alloc | apply pw_below_drewN | apply below_drew1) | exact HB.out)⟩⟩
  case round =>
    clear H'
    try clear p2
    try clear c3
    obtain ⟨x3_1, x4_1, rfl, HA, HK1, HO_3, HB⟩ := hrel
    cases gk with
    | zero => exact absurd HA.out (by simp [selfstablaw05_permutation.l0])
    | succ k1 =>
      have H := HA.out
      clear HA
      simp only [selfstablaw05_permutation.l0] at H
      by_cases c4 : x4_1 < (l0.length : Int)
      · rw [if_pos c4] at H
        have c4b0 : decide (x4_1 < (l0.length : Int)) = true := decide_eq_true c4
        clear c4
        by_cases c5 : x4_1 < (x3_1.length : Int)
        · rw [if_pos c5] at H
          have c5b0 : decide (x4_1 < (x3_1.length : Int)) = true := decide_eq_true c5
          clear c5
          by_cases c6 : 0 ≤ x4_1
          · rw [if_pos c6] at H
            have c6b0 : decide (0 ≤ x4_1) = true := decide_eq_true c6
            clear c6
            replace H := Option.bind_eq_some_iff.mp H
            obtain ⟨t344, A70, H⟩ := H
            replace H : (if 0 ≤ t344 then (if t344 < (x3_1.length : Int) then (selfstablaw05_permutation.l0 k1 l0 ((x3_1.set (x4_1 : Int).toNat (rd x3_1 t344)).set (t344 : Int).toNat (rd x3_1 x4_1)) (wrap64 (x4_1 + 1))) else (none)) else (none)) = some r := H
            have A7 := Aside0.mk A70
            clear A70
            by_cases c8 : 0 ≤ t344
            · rw [if_pos c8] at H
              have c8b0 : decide (0 ≤ t344) = true := decide_eq_true c8
              clear c8
              by_cases c9 : t344 < (x3_1.length : Int)
              · rw [if_pos c9] at H
                have c9b0 : decide (t344 < (x3_1.length : Int)) = true := decide_eq_true c9
                clear c9
                obtain ⟨y347, hy347⟩ : ∃ y_ : List Int, y_ = (x3_1.set (x4_1 : Int).toNat (rd x3_1 t344)) := ⟨_, rfl⟩
                replace H : (selfstablaw05_permutation.l0 k1 l0 (y347.set (t344 : Int).toNat (rd x3_1 x4_1)) (wrap64 (x4_1 + 1))) = some r := by first | (rw [hy347]; with_reducible exact H) | (have H2_ := (Option.bind_some _ _).symm.trans H; rw [hy347]; with_reducible exact H2_) | (have H2_ := (Option.bind_some _ _).symm.trans H; with_reducible exact H2_) | with_reducible exact H | (rw [hy347]; exact H) | exact H
                have Ny347 := Aside0.mk hy347
                clear hy347
                obtain ⟨y348, hy348⟩ : ∃ y_ : List Int, y_ = (y347.set (t344 : Int).toNat (rd x3_1 x4_1)) := ⟨_, rfl⟩
                replace H : (selfstablaw05_permutation.l0 k1 l0 y348 (wrap64 (x4_1 + 1))) = some r := by first | (rw [hy348]; with_reducible exact H) | (have H2_ := (Option.bind_some _ _).symm.trans H; rw [hy348]; with_reducible exact H2_) | (have H2_ := (Option.bind_some _ _).symm.trans H; with_reducible exact H2_) | with_reducible exact H | (rw [hy348]; exact H) | exact H
                have Ny348 := Aside0.mk hy348
                clear hy348
                have H' := Aside0.mk H
                clear H
                obtain ⟨Ao12, co12, eo12⟩ := Kd.R_slice HO_3.out
                subst eo12
                have p343 : 0 ≤ (x4_1 : Int) := of_decide_eq_true (by first | (with_reducible assumption) | assumption)
                have q343 : x4_1 < (l0.length : Int) := of_decide_eq_true (by first | (with_reducible assumption) | assumption)
                obtain ⟨ad343, e343, hx343_0⟩ := Kd.at_int HR0.out x4_1 p343 q343
                cases e343
                replace hx343_0 := (HB.out.cell (World.block_lt_of_cell? w _ hx343_0)).trans hx343_0
                replace p343 := eq_true p343
                replace q343 := eq_true q343
                try go_wp2_with (first | ((with_reducible refine gate_callee (f := 23) rfl ?_); refine goesL_ (some 25) rfl rfl Try.func23 (by kernel_rfl) rfl #[.int .i64 (rd l0 x4_1), .int .i64 (x3_1.length : Int)] rfl (by (try simp only [List.map_toArray, List.map_cons, List.map_nil]); first | done | rfl | (simp only [List.length_drop, List.length_take]; rfl)) ?_; (with_reducible refine (selfstabmade_Mod.calls (rd l0 x4_1) (x3_1.length : Int) t344 _ A7.out).mono ?_); rintro e w' ⟨rfl, ⟨nd, rfl⟩⟩; refine ⟨_, rfl, ?_⟩; (try (rw [drewN_self wr]; generalize hq_ : World.drewN wr _ = wr; have n0_ : Aside0 (Kd.R (Kd.int .i64) 3 wr w.heap.size (fun _ => True) (.slice Ao12 x3_1.length co12) x3_1) := ⟨by rw [← hq_]; exact (by (with_reducible repeat (first | apply Kd.R_alloc | apply Kd.R_drewN | apply Kd.R_drew)); exact HO_3.out)⟩; have n1_ : Aside0 (Below w.heap.size w wr) := ⟨by rw [← hq_]; exact (by repeat (first | (with_reducible first | exact HB.out | apply below_alloc | apply pw_below_drewN | apply below_drew1) | exact HB.out))⟩; clear HO_3 HB hq_; have HO_3 := n0_; have HB := n1_; clear n0_ n1_))))
                have n0_ := Aside0.mk (Kd.R_drew HO_3.out)
                have n1_ := Aside0.mk (below_drew1 HB.out)
                clear HO_3
                clear HB
                have HO_3 := n0_
                have HB := n1_
                clear n0_ n1_
                have p345 : 0 ≤ (t344 : Int) := of_decide_eq_true (by first | (with_reducible assumption) | assumption)
                have q345 : t344 < (x3_1.length : Int) := of_decide_eq_true (by first | (with_reducible assumption) | assumption)
                obtain ⟨ad345, e345, hx345_0⟩ := Kd.at_int (Kd.R_reads' HO_3.out).2.2 t344 p345 q345
                cases e345
                replace p345 := eq_true p345
                replace q345 := eq_true q345
                have p346 : 0 ≤ (x4_1 : Int) := of_decide_eq_true (by first | (with_reducible assumption) | assumption)
                have q346 : x4_1 < (x3_1.length : Int) := of_decide_eq_true (by first | (with_reducible assumption) | assumption)
                obtain ⟨ad346, e346, hx346_0⟩ := Kd.at_int (Kd.R_reads' HO_3.out).2.2 x4_1 p346 q346
                obtain rfl : ad345 = ad346 := (by injection e346)
                replace p346 := eq_true p346
                replace q346 := eq_true q346
                have p10 : 0 ≤ (x4_1 : Int) := of_decide_eq_true (by first | (with_reducible assumption) | assumption)
                have q10 : (x4_1 : Int) < ((x3_1.length : Int) : Int) := of_decide_eq_true (by first | (with_reducible assumption) | assumption)
                obtain ⟨go10, co10, eo10, gb10, gl10, cl10, HG10⟩ := Kd.R_form HO_3.out (by omega)
                (first | cases eo10 | (injection eo10 with ea_ en_ ec_; (first | subst ea_ | (injection ea_ with ea_; subst ea_)); subst ec_; clear en_))
                have GB10 := Aside0.mk gb10
                have GG10 := Aside0.mk HG10
                clear gb10 gl10 HG10
                (first | simp only [add_plain] at hx345_0 | skip)
                (first | simp only [add_plain] at hx346_0 | skip)
                obtain ⟨hx10_0, hf10_0⟩ := Kd.R_celln 0 HO_3.out (x4_1 : Int) p10 q10
                replace p10 := eq_true p10
                replace q10 := eq_true q10
                have HP14 := Kd.R_putn HO_3.out (x4_1 : Int) (rd x3_1 t344)
                rw [← Ny347.out] at HP14
                have HQ14 := Aside0.mk HP14
                clear HP14
                have p11 : 0 ≤ (t344 : Int) := of_decide_eq_true (by first | (with_reducible assumption) | assumption)
                have q11 : (t344 : Int) < ((x3_1.length : Int) : Int) := of_decide_eq_true (by first | (with_reducible assumption) | assumption)
                obtain ⟨hx11_0, hf11_0⟩ := Kd.R_celln 0 HQ14.out (t344 : Int) p11 q11
                replace p11 := eq_true p11
                replace q11 := eq_true q11
                have HP15 := Kd.R_putn HQ14.out (t344 : Int) (rd x3_1 x4_1)
                rw [← Ny348.out] at HP15
                have HQ15 := Aside0.mk HP15
                clear HP15
                refine start_ (n := 16) (S := fun w' => w'.cell? ⟨go10, (t344).toNat, none⟩ = some (.int .i64 (rd x3_1 t344)) ∧ w'.cell? ⟨go10, (x4_1).toNat, none⟩ = some (.int .i64 (rd x3_1 x4_1))) (ds := [13, 15]) #[false, false, false, false, false, false, false, false, false, false, false, false, false, false, false, false] (by kernel_rfl) rfl rfl ⟨hx345_0, hx346_0⟩ (fun hHeld => ?_); refine with_tabW selfstablaw05_permutation.tab6 selfstablaw05_permutation.bits6 (fun HT_ HW_ => ?_)
                generalize wr.drew = w13 at HO_3 HB GG10 HQ14 HQ15 hf10_0 hf11_0 hx10_0 hx11_0 hx345_0 hx346_0 hHeld ⊢
                refine pure_ (i := 0) (N := some 26) (v := ?_) (a' := ?_) #[true, false, false, false, false, false, false, false, false, false, false, false, false, false, false, false] rfl rfl (any_of HT_.out (by kernel_rfl)) (fun _ _ _ h => h) (Or.inl ⟨by rfl, ?_⟩) ?_ ?_
                rotate_left
                · intro w'
                  go_simp
                  with_reducible rfl
                rotate_left
                · simp only [Act.put, List.setIfInBounds_toArray, List.set_cons_zero, List.set_cons_succ, i64_w, i32_w]
                  rfl
                refine pure_ (i := 1) (N := some 27) (v := ?_) (a' := ?_) #[true, true, false, false, false, false, false, false, false, false, false, false, false, false, false, false] rfl rfl (any_of HT_.out (by kernel_rfl)) (fun _ _ _ h => h) (Or.inl ⟨by rfl, ?_⟩) ?_ ?_
                rotate_left
                · intro w'
                  go_simp
                  with_reducible rfl
                rotate_left
                · simp only [Act.put, List.setIfInBounds_toArray, List.set_cons_zero, List.set_cons_succ, i64_w, i32_w]
                  rfl
                refine pure_ (i := 2) (N := some 28) (v := ?_) (a' := ?_) #[true, true, true, false, false, false, false, false, false, false, false, false, false, false, false, false] rfl rfl (any_of HT_.out (by kernel_rfl)) (fun _ _ _ h => h) (Or.inl ⟨by rfl, ?_⟩) ?_ ?_
                rotate_left
                · intro w'
                  go_simp
                  with_reducible rfl
                rotate_left
                · simp only [Act.put, List.setIfInBounds_toArray, List.set_cons_zero, List.set_cons_succ, i64_w, i32_w]
                  rfl
                refine pure_ (i := 3) (N := some 29) (v := ?_) (a' := ?_) #[true, true, true, true, false, false, false, false, false, false, false, false, false, false, false, false] rfl rfl (any_of HT_.out (by kernel_rfl)) (fun _ _ _ h => h) (Or.inl ⟨by rfl, ?_⟩) ?_ ?_
                rotate_left
                · intro w'
                  go_simp
                  with_reducible rfl
                rotate_left
                · simp only [Act.put, List.setIfInBounds_toArray, List.set_cons_zero, List.set_cons_succ, i64_w, i32_w]
                  rfl
                refine pure_ (i := 4) (N := some 30) (v := ?_) (a' := ?_) #[true, true, true, true, true, false, false, false, false, false, false, false, false, false, false, false] rfl rfl (any_of HT_.out (by kernel_rfl)) (fun _ _ _ h => h) (Or.inl ⟨by rfl, ?_⟩) ?_ ?_
                rotate_left
                · intro w'
                  go_simp
                  with_reducible rfl
                rotate_left
                · simp only [Act.put, List.setIfInBounds_toArray, List.set_cons_zero, List.set_cons_succ, i64_w, i32_w]
                  rfl
                refine pure_ (i := 5) (N := some 31) (v := ?_) (a' := ?_) #[true, true, true, true, true, true, false, false, false, false, false, false, false, false, false, false] rfl rfl (any_of HT_.out (by kernel_rfl)) (fun _ _ _ h => h) (Or.inl ⟨by rfl, ?_⟩) ?_ ?_
                rotate_left
                · intro w'
                  go_simp
                  with_reducible rfl
                rotate_left
                · simp only [Act.put, List.setIfInBounds_toArray, List.set_cons_zero, List.set_cons_succ, i64_w, i32_w]
                  rfl
                refine pure_ (i := 6) (N := some 32) (v := ?_) (a' := ?_) #[true, true, true, true, true, true, true, false, false, false, false, false, false, false, false, false] rfl rfl (any_of HT_.out (by kernel_rfl)) (fun _ _ _ h => h) (Or.inl ⟨by rfl, ?_⟩) ?_ ?_
                rotate_left
                · intro w'
                  go_simp
                  with_reducible rfl
                rotate_left
                · simp only [Act.put, List.setIfInBounds_toArray, List.set_cons_zero, List.set_cons_succ, i64_w, i32_w]
                  rfl
                refine pure_ (i := 8) (N := some 34) (v := ?_) (a' := ?_) #[true, true, true, true, true, true, true, false, true, false, false, false, false, false, false, false] rfl rfl (any_of HT_.out (by kernel_rfl)) (fun _ _ _ h => h) (Or.inl ⟨by rfl, ?_⟩) ?_ ?_
                rotate_left
                · intro w'
                  go_simp
                  with_reducible rfl
                rotate_left
                · simp only [Act.put, List.setIfInBounds_toArray, List.set_cons_zero, List.set_cons_succ, i64_w, i32_w]
                  rfl
                refine pure_ (i := 9) (N := some 35) (v := ?_) (a' := ?_) #[true, true, true, true, true, true, true, false, true, true, false, false, false, false, false, false] rfl rfl (any_of HT_.out (by kernel_rfl)) (fun _ _ _ h => h) (Or.inl ⟨by rfl, ?_⟩) ?_ ?_
                rotate_left
                · intro w'
                  go_simp
                  with_reducible rfl
                rotate_left
                · simp only [Act.put, List.setIfInBounds_toArray, List.set_cons_zero, List.set_cons_succ, i64_w, i32_w]
                  rfl
                refine pure_ (i := 10) (N := some 36) (v := ?_) (a' := ?_) #[true, true, true, true, true, true, true, false, true, true, true, false, false, false, false, false] rfl rfl (any_of HT_.out (by kernel_rfl)) (fun _ _ _ h => h) (Or.inl ⟨by rfl, ?_⟩) ?_ ?_
                rotate_left
                · intro w'
                  go_simp
                  with_reducible rfl
                rotate_left
                · simp only [Act.put, List.setIfInBounds_toArray, List.set_cons_zero, List.set_cons_succ, i64_w, i32_w]
                  rfl
                refine take_ (i := 7) (N := some 33) (v := ?_) (a' := ?_) #[true, true, true, true, true, true, true, true, true, true, true, false, false, false, false, false] rfl rfl (take_ofW HT_.out HW_.out (by kernel_rfl)) (fun _ _ _ h => h) (Or.inl ⟨by rfl, ?_⟩) hHeld ?_ ?_
                rotate_left
                · rintro w' ⟨s0, s1⟩
                  go_simp
                  with_reducible rfl
                rotate_left
                · simp only [Act.put, List.setIfInBounds_toArray, List.set_cons_zero, List.set_cons_succ, i64_w, i32_w]
                  rfl
                refine take_ (i := 11) (N := some 37) (v := ?_) (a' := ?_) #[true, true, true, true, true, true, true, true, true, true, true, true, false, false, false, false] rfl rfl (take_ofW HT_.out HW_.out (by kernel_rfl)) (fun _ _ _ h => h) (Or.inl ⟨by rfl, ?_⟩) hHeld ?_ ?_
                rotate_left
                · rintro w' ⟨s0, s1⟩
                  go_simp
                  with_reducible rfl
                rotate_left
                · simp only [Act.put, List.setIfInBounds_toArray, List.set_cons_zero, List.set_cons_succ, i64_w, i32_w]
                  rfl
                refine pure_ (i := 12) (N := some 38) (v := ?_) (a' := ?_) #[true, true, true, true, true, true, true, true, true, true, true, true, true, false, false, false] rfl rfl (any_of HT_.out (by kernel_rfl)) (fun _ _ _ h => h) (Or.inl ⟨by rfl, ?_⟩) ?_ ?_
                rotate_left
                · intro w'
                  go_simp
                  with_reducible rfl
                rotate_left
                · simp only [Act.put, List.setIfInBounds_toArray, List.set_cons_zero, List.set_cons_succ, i64_w, i32_w]
                  rfl
                refine last_ (i := 13) (N := none) #[true, true, true, true, true, true, true, true, true, true, true, true, true, true, false, false] rfl rfl (one_of HT_.out (by kernel_rfl)) (by decide) (fun K hK => ?_)
                refine skip_ (w1 := ?_) (by rfl) rfl ?_ ?_
                rotate_left
                · go_simp
                  rfl
                refine hK.out _ _ ?_
                clear hK K
                refine pure_ (i := 14) (N := some 39) (v := ?_) (a' := ?_) #[true, true, true, true, true, true, true, true, true, true, true, true, true, true, true, false] rfl rfl (any_of HT_.out (by kernel_rfl)) (fun _ _ _ h => h) (Or.inl ⟨by rfl, ?_⟩) ?_ ?_
                rotate_left
                · intro w'
                  go_simp
                  with_reducible rfl
                rotate_left
                · simp only [Act.put, List.setIfInBounds_toArray, List.set_cons_zero, List.set_cons_succ, i64_w, i32_w]
                  rfl
                refine last_ (i := 15) (N := none) #[true, true, true, true, true, true, true, true, true, true, true, true, true, true, true, true] rfl rfl (one_of HT_.out (by kernel_rfl)) (by decide) (fun K hK => ?_)
                refine skip_ (w1 := ?_) (by rfl) rfl ?_ ?_
                rotate_left
                · go_simp
                  rfl
                refine hK.out _ _ ?_
                clear hK K
                refine done_ (done_of HT_.out (by kernel_rfl)) ?_
                try go_wp2
                go_roundg k1
                case measure => have := HK1.out; omega
                case rel => exact ⟨(y348), (wrap64 (x4_1 + 1)), (by first | rfl | (simp; done) | (simp [*]; done)), H', ⟨by have := HK1.out; omega⟩, ⟨by (with_reducible repeat (first | apply Kd.R_alloc | apply Kd.R_drewN | apply Kd.R_drew)); exact HQ15.out⟩, ⟨by repeat (first | (with_reducible first | exact HB.out | apply below_alloc | apply pw_below_drewN | apply below_drew1 | refine below_set ?_ GB10.out | refine below_set ?_ GB10.out) | exact HB.out)⟩⟩
              · rw [if_neg c9] at H
                exact absurd H (by simp)
            · rw [if_neg c8] at H
              exact absurd H (by simp)
          · rw [if_neg c6] at H
            exact absurd H (by simp)
        · rw [if_neg c5] at H
          have c5b0 : decide (x4_1 < (x3_1.length : Int)) = false := decide_eq_false c5
          clear c5
          obtain rfl := Option.some.inj H
          obtain ⟨Ao16, co16, eo16⟩ := Kd.R_slice HO_3.out
          subst eo16
          go_wp2
          go_ret
          exact ⟨_, by first | rfl | (simp [errW_none, errW_some] <;> rfl) | (simp [*, errW_none, errW_some] <;> rfl), by (with_reducible repeat (first | apply Kd.R_alloc | apply Kd.R_drewN | apply Kd.R_drew)); exact HO_3.out, by repeat (first | (with_reducible first | exact HB.out | apply below_alloc | apply pw_below_drewN | apply below_drew1) | exact HB.out)⟩
      · rw [if_neg c4] at H
        have c4b0 : decide (x4_1 < (l0.length : Int)) = false := decide_eq_false c4
        clear c4
        obtain rfl := Option.some.inj H
        go_wp2
        go_ret
        exact ⟨_, by first | rfl | (simp [errW_none, errW_some] <;> rfl) | (simp [*, errW_none, errW_some] <;> rfl), by (with_reducible repeat (first | apply Kd.R_alloc | apply Kd.R_drewN | apply Kd.R_drew)); exact HO_3.out, by repeat (first | (with_reducible first | exact HB.out | apply below_alloc | apply pw_below_drewN | apply below_drew1) | exact HB.out)⟩

/-! ### selfstablaw05_TermRenamesBack: function 9 -/
mutual
def selfstablaw05_TermRenamesBack.j0 : Nat → List (S31) → List Int → Bool → Option (Bool)
  | 0, _, _, _ => none
  | k + 1, x0, x1, x24 => if x24 = true then ((selfstablaw05_awake.f k).bind fun t351 => (some t351)) else ((selfstablaw05_permutation.f k x1).bind fun t352 => (if 0 ≤ (t352.length : Int) then (if ((t352.length : Int) : Int).toNat ≤ 35184372088832 then (selfstablaw05_TermRenamesBack.l0 k x0 t352 (List.replicate ((t352.length : Int) : Int).toNat 0) 0) else (none)) else (none)))
def selfstablaw05_TermRenamesBack.l0 : Nat → List (S31) → List Int → List Int → Int → Option (Bool)
  | 0, _, _, _, _ => none
  | k + 1, x0, x5, x6, x7 => if x7 < (x5.length : Int) then (if 0 ≤ x7 then (if 0 ≤ (rd x5 x7) then (if (rd x5 x7) < (x6.length : Int) then (selfstablaw05_TermRenamesBack.l0 k x0 x5 (x6.set ((rd x5 x7) : Int).toNat x7) (wrap64 (x7 + 1))) else (none)) else (none)) else (none)) else ((term_Rename.f k x0 x5).bind fun bt360 => ((term_Rename.f k bt360.1 x6).bind fun bt364 => ((term_Reads.f k x0).bind fun bt368 => ((term_Reads.f k bt360.1).bind fun bt370 => (selfstablaw05_TermRenamesBack.l1 k x0 x5 bt360.1 bt360.2 bt364.1 bt364.2 bt368.1 bt368.2 bt370.1 bt370.2 0)))))
def selfstablaw05_TermRenamesBack.l1 : Nat → List (S31) → List Int → List (S31) → Int → List (S31) → Int → Int → Int → Int → Int → Int → Option (Bool)
  | 0, _, _, _, _, _, _, _, _, _, _, _ => none
  | k + 1, x0, x5, x8, x9, x10, x11, x12, x13, x14, x15, x16 => if x16 < (x5.length : Int) then (if 0 ≤ (IntKind.u64.wrap (x16)) then (if 0 ≤ x16 then (if 0 ≤ (IntKind.u64.wrap (rd x5 x16)) then (if (Go.bits .and .u32 (shr .u32 x12 (IntKind.u64.wrap (x16))) 1) = (Go.bits .and .u32 (shr .u32 x14 (IntKind.u64.wrap (rd x5 x16))) 1) then (if (Go.bits .and .u32 (shr .u32 x13 (IntKind.u64.wrap (x16))) 1) = (Go.bits .and .u32 (shr .u32 x15 (IntKind.u64.wrap (rd x5 x16))) 1) then (selfstablaw05_TermRenamesBack.l1 k x0 x5 x8 x9 x10 x11 x12 x13 x14 x15 (wrap64 (x16 + 1))) else (some false)) else (some false)) else (none)) else (none)) else (none)) else ((selfstablaw05_awake.f k).bind fun t374 => (if t374 = true then (if x9 = 0 then (if x11 = 0 then ((selfstabref05_Same.f k x0 x10).bind fun t375 => (if t375 = true then (some ((x8.length : Int) == (x0.length : Int))) else (some false))) else (some false)) else (some false)) else (some false)))
end
def selfstablaw05_TermRenamesBack.f (k : Nat) (l0 : List (S31)) (l1 : List Int) : Option (Bool) := (selfstabmade_LightExpr.f l0).bind fun t349 => (if t349 = true then ((selfstabref05_Valid.f k l0 6).bind fun t350 => (selfstablaw05_TermRenamesBack.j0 k l0 l1 (!t350))) else (selfstablaw05_TermRenamesBack.j0 k l0 l1 true))
theorem selfstablaw05_TermRenamesBack.mono_l : ∀ k, (∀ y0 y1 y2, LeO (selfstablaw05_TermRenamesBack.j0 k y0 y1 y2) (selfstablaw05_TermRenamesBack.j0 (k + 1) y0 y1 y2)) ∧ (∀ y0 y1 y2 y3, LeO (selfstablaw05_TermRenamesBack.l0 k y0 y1 y2 y3) (selfstablaw05_TermRenamesBack.l0 (k + 1) y0 y1 y2 y3)) ∧ (∀ y0 y1 y2 y3 y4 y5 y6 y7 y8 y9 y10, LeO (selfstablaw05_TermRenamesBack.l1 k y0 y1 y2 y3 y4 y5 y6 y7 y8 y9 y10) (selfstablaw05_TermRenamesBack.l1 (k + 1) y0 y1 y2 y3 y4 y5 y6 y7 y8 y9 y10))
  | 0 => ⟨fun _ _ _ r h => by simp [selfstablaw05_TermRenamesBack.j0] at h, fun _ _ _ _ r h => by simp [selfstablaw05_TermRenamesBack.l0] at h, fun _ _ _ _ _ _ _ _ _ _ _ r h => by simp [selfstablaw05_TermRenamesBack.l1] at h⟩
  | k + 1 => by
    obtain ⟨ih0, ih1, ih2⟩ := selfstablaw05_TermRenamesBack.mono_l k
    refine ⟨?_, ?_, ?_⟩
    · intro y0 y1 y2
      unfold selfstablaw05_TermRenamesBack.j0
      repeat' first
      | (with_reducible exact ih0 _ _ _)
      | (with_reducible exact ih1 _ _ _ _)
      | (with_reducible exact ih2 _ _ _ _ _ _ _ _ _ _ _)
      | (with_reducible exact selfstablaw05_awake.mono _)
      | (with_reducible exact selfstablaw05_permutation.mono _ _)
      | (with_reducible exact selfstabref05_Same.mono _ _ _)
      | (with_reducible exact selfstabref05_Valid.mono _ _ _)
      | (with_reducible exact term_Reads.mono _ _)
      | (with_reducible exact term_Rename.mono _ _ _)
      | (with_reducible exact LeO.refl _)
      | (with_reducible exact LeO.none _)
      | (with_reducible refine LeO.ite ?_ ?_)
      | (with_reducible refine LeO.bind ?_ (fun _ => ?_))
      | exact ih0 _ _ _
      | exact ih1 _ _ _ _
      | exact ih2 _ _ _ _ _ _ _ _ _ _ _
      | exact selfstablaw05_awake.mono _
      | exact selfstablaw05_permutation.mono _ _
      | exact selfstabref05_Same.mono _ _ _
      | exact selfstabref05_Valid.mono _ _ _
      | exact term_Reads.mono _ _
      | exact term_Rename.mono _ _ _
      | exact LeO.none _
      | refine LeO.ite ?_ ?_
      | refine LeO.bind ?_ (fun _ => ?_)
    · intro y0 y1 y2 y3
      unfold selfstablaw05_TermRenamesBack.l0
      repeat' first
      | (with_reducible exact ih0 _ _ _)
      | (with_reducible exact ih1 _ _ _ _)
      | (with_reducible exact ih2 _ _ _ _ _ _ _ _ _ _ _)
      | (with_reducible exact selfstablaw05_awake.mono _)
      | (with_reducible exact selfstablaw05_permutation.mono _ _)
      | (with_reducible exact selfstabref05_Same.mono _ _ _)
      | (with_reducible exact selfstabref05_Valid.mono _ _ _)
      | (with_reducible exact term_Reads.mono _ _)
      | (with_reducible exact term_Rename.mono _ _ _)
      | (with_reducible exact LeO.refl _)
      | (with_reducible exact LeO.none _)
      | (with_reducible refine LeO.ite ?_ ?_)
      | (with_reducible refine LeO.bind ?_ (fun _ => ?_))
      | exact ih0 _ _ _
      | exact ih1 _ _ _ _
      | exact ih2 _ _ _ _ _ _ _ _ _ _ _
      | exact selfstablaw05_awake.mono _
      | exact selfstablaw05_permutation.mono _ _
      | exact selfstabref05_Same.mono _ _ _
      | exact selfstabref05_Valid.mono _ _ _
      | exact term_Reads.mono _ _
      | exact term_Rename.mono _ _ _
      | exact LeO.none _
      | refine LeO.ite ?_ ?_
      | refine LeO.bind ?_ (fun _ => ?_)
    · intro y0 y1 y2 y3 y4 y5 y6 y7 y8 y9 y10
      unfold selfstablaw05_TermRenamesBack.l1
      repeat' first
      | (with_reducible exact ih0 _ _ _)
      | (with_reducible exact ih1 _ _ _ _)
      | (with_reducible exact ih2 _ _ _ _ _ _ _ _ _ _ _)
      | (with_reducible exact selfstablaw05_awake.mono _)
      | (with_reducible exact selfstablaw05_permutation.mono _ _)
      | (with_reducible exact selfstabref05_Same.mono _ _ _)
      | (with_reducible exact selfstabref05_Valid.mono _ _ _)
      | (with_reducible exact term_Reads.mono _ _)
      | (with_reducible exact term_Rename.mono _ _ _)
      | (with_reducible exact LeO.refl _)
      | (with_reducible exact LeO.none _)
      | (with_reducible refine LeO.ite ?_ ?_)
      | (with_reducible refine LeO.bind ?_ (fun _ => ?_))
      | exact ih0 _ _ _
      | exact ih1 _ _ _ _
      | exact ih2 _ _ _ _ _ _ _ _ _ _ _
      | exact selfstablaw05_awake.mono _
      | exact selfstablaw05_permutation.mono _ _
      | exact selfstabref05_Same.mono _ _ _
      | exact selfstabref05_Valid.mono _ _ _
      | exact term_Reads.mono _ _
      | exact term_Rename.mono _ _ _
      | exact LeO.none _
      | refine LeO.ite ?_ ?_
      | refine LeO.bind ?_ (fun _ => ?_)
theorem selfstablaw05_TermRenamesBack.mono : ∀ a0 a1 k, LeO (selfstablaw05_TermRenamesBack.f k a0 a1) (selfstablaw05_TermRenamesBack.f (k + 1) a0 a1) := by
  intro a0 a1 k
  obtain ⟨ih0, ih1, ih2⟩ := selfstablaw05_TermRenamesBack.mono_l k
  unfold selfstablaw05_TermRenamesBack.f
  repeat' first
      | (with_reducible exact ih0 _ _ _)
      | (with_reducible exact ih1 _ _ _ _)
      | (with_reducible exact ih2 _ _ _ _ _ _ _ _ _ _ _)
      | (with_reducible exact selfstablaw05_awake.mono _)
      | (with_reducible exact selfstablaw05_permutation.mono _ _)
      | (with_reducible exact selfstabref05_Same.mono _ _ _)
      | (with_reducible exact selfstabref05_Valid.mono _ _ _)
      | (with_reducible exact term_Reads.mono _ _)
      | (with_reducible exact term_Rename.mono _ _ _)
      | (with_reducible exact LeO.refl _)
      | (with_reducible exact LeO.none _)
      | (with_reducible refine LeO.ite ?_ ?_)
      | (with_reducible refine LeO.bind ?_ (fun _ => ?_))
      | exact ih0 _ _ _
      | exact ih1 _ _ _ _
      | exact ih2 _ _ _ _ _ _ _ _ _ _ _
      | exact selfstablaw05_awake.mono _
      | exact selfstablaw05_permutation.mono _ _
      | exact selfstabref05_Same.mono _ _ _
      | exact selfstabref05_Valid.mono _ _ _
      | exact term_Reads.mono _ _
      | exact term_Rename.mono _ _ _
      | exact LeO.none _
      | refine LeO.ite ?_ ?_
      | refine LeO.bind ?_ (fun _ => ?_)
set_option maxHeartbeats 6000000 in
set_option maxRecDepth 100000 in
theorem selfstablaw05_TermRenamesBack.calls (k : Nat) (A0 : Option Addr) (c0 : Nat) (l0 : List (S31)) (A1 : Option Addr) (c1 : Nat) (l1 : List Int) (r : Bool) (w : World) (hr0 : Kd.C k31 w A0 l0.length l0) (hc0 : l0.length ≤ c0) (hr1 : Kd.C (Kd.int .i64) w A1 l1.length l1) (hc1 : l1.length ≤ c1) (h : selfstablaw05_TermRenamesBack.f k l0 l1 = some r) :
    Calls Try.prog 9 #[.slice A0 l0.length c0, .slice A1 l1.length c1] w fun e w' => e = .returned (.bool r) ∧ Below w.heap.size w w' := by
  have HR0 := Aside0.mk hr0
  have HC0 := Aside0.mk hc0
  clear hr0 hc0
  have HR1 := Aside0.mk hr1
  have HC1 := Aside0.mk hc1
  clear hr1 hc1
  have HB := Aside0.mk (Below.refl w.heap.size w)
  have H : ((selfstabmade_LightExpr.f l0).bind fun t349 => (if t349 = true then ((selfstabref05_Valid.f k l0 6).bind fun t350 => (selfstablaw05_TermRenamesBack.j0 k l0 l1 (!t350))) else (selfstablaw05_TermRenamesBack.j0 k l0 l1 true))) = some r := h
  clear h
  have HC3 := Aside0.mk H
  clear H
  go_enter Try.func9, Try.ntmps9
  go_upto_region 1 with (fail)
  go_cut [24] (fun v24 wc => ∃ (kq : Nat) (x24_2 : Bool), v24 = .bool x24_2 ∧ Aside0 (selfstablaw05_TermRenamesBack.j0 kq l0 l1 x24_2 = some r) ∧ Aside0 (kq ≤ k) ∧ Aside0 (Below w.heap.size w wc))
  case first =>
    have H := HC3.out
    clear HC3
    replace H := Option.bind_eq_some_iff.mp H
    obtain ⟨t349, A40, H⟩ := H
    replace H : (if t349 = true then ((selfstabref05_Valid.f k l0 6).bind fun t350 => (selfstablaw05_TermRenamesBack.j0 k l0 l1 (!t350))) else (selfstablaw05_TermRenamesBack.j0 k l0 l1 true)) = some r := H
    have A4 := Aside0.mk A40
    clear A40
    by_cases c5 : t349 = true
    · subst c5
      have H1 : ((selfstabref05_Valid.f k l0 6).bind fun t350 => (selfstablaw05_TermRenamesBack.j0 k l0 l1 (!t350))) = some r := by rw [if_pos rfl] at H; exact H
      clear H
      have H := H1
      clear H1
      replace H := Option.bind_eq_some_iff.mp H
      obtain ⟨t350, A60, H⟩ := H
      replace H : (selfstablaw05_TermRenamesBack.j0 k l0 l1 (!t350)) = some r := H
      have A6 := Aside0.mk A60
      clear A60
      have H' := Aside0.mk H
      clear H
      go_wp2_with (first | ((with_reducible refine gate_callee (f := 10) rfl ?_); refine goesL_ (some 18) rfl rfl Try.func10 (by kernel_rfl) rfl #[.slice A0 l0.length c0] rfl (by (try simp only [List.map_toArray, List.map_cons, List.map_nil]); first | done | rfl | (simp only [List.length_drop, List.length_take]; rfl)) ?_; (with_reducible refine (selfstabmade_LightExpr.calls _ _ l0 true _ ?side1 ?side2 A4.out).mono ?_); (case side1 => repeat (first | exact (Kd.C_below HR0.out HB.out) | (with_reducible refine Kd.C_alloc ?_ _) | (with_reducible refine Kd.C_drewN ?_ _) | (with_reducible refine Kd.C_drew ?_))); (case side2 => exact HC0.out); rintro e w' ⟨rfl, ⟨nd, rfl⟩⟩; refine ⟨_, rfl, ?_⟩) | (go_at_call 22; (with_reducible refine (selfstabref05_Valid.calls k _ _ l0 6 t350 _ ?side1 ?side2 A6.out).mono ?_); (case side1 => repeat (first | exact (Kd.C_below HR0.out (by repeat (first | (with_reducible first | exact HB.out | apply below_alloc | apply pw_below_drewN | apply below_drew1) | exact HB.out))) | (with_reducible refine Kd.C_alloc ?_ _) | (with_reducible refine Kd.C_drewN ?_ _) | (with_reducible refine Kd.C_drew ?_))); (case side2 => exact HC0.out); rintro e w7 ⟨rfl, hb⟩; have n0_ := Aside0.mk (below_step (by repeat (first | (with_reducible first | exact HB.out | apply below_alloc | apply pw_below_drewN | apply below_drew1) | exact HB.out)) hb); clear HB; have HB := n0_; clear n0_; (try clear hb); (try clear hb2); (try clear hk); (try clear hi)))
      go_meet
      case rel => exact ⟨_, (!t350), (by first | rfl | (simp; done) | (simp [*]; done)), H', ⟨by first | omega | exact Nat.le_refl _⟩, ⟨by repeat (first | (with_reducible first | exact HB.out | apply below_alloc | apply pw_below_drewN | apply below_drew1) | exact HB.out)⟩⟩
    · replace c5 := Bool.eq_false_iff.mpr c5
      subst c5
      have H1 : (selfstablaw05_TermRenamesBack.j0 k l0 l1 true) = some r := by rw [if_neg (show ¬ (false = true) by decide)] at H; exact H
      clear H
      have H := H1
      clear H1
      have H' := Aside0.mk H
      clear H
      go_wp2_with (first | ((with_reducible refine gate_callee (f := 10) rfl ?_); refine goesL_ (some 18) rfl rfl Try.func10 (by kernel_rfl) rfl #[.slice A0 l0.length c0] rfl (by (try simp only [List.map_toArray, List.map_cons, List.map_nil]); first | done | rfl | (simp only [List.length_drop, List.length_take]; rfl)) ?_; (with_reducible refine (selfstabmade_LightExpr.calls _ _ l0 false _ ?side1 ?side2 A4.out).mono ?_); (case side1 => repeat (first | exact (Kd.C_below HR0.out HB.out) | (with_reducible refine Kd.C_alloc ?_ _) | (with_reducible refine Kd.C_drewN ?_ _) | (with_reducible refine Kd.C_drew ?_))); (case side2 => exact HC0.out); rintro e w' ⟨rfl, ⟨nd, rfl⟩⟩; refine ⟨_, rfl, ?_⟩))
      go_meet
      case rel => exact ⟨_, (true), (by first | rfl | (simp; done) | (simp [*]; done)), H', ⟨by first | omega | exact Nat.le_refl _⟩, ⟨by repeat (first | (with_reducible first | exact HB.out | apply below_alloc | apply pw_below_drewN | apply below_drew1) | exact HB.out)⟩⟩
  case rest =>
    clear HC3
    try clear c1
    try clear p2
    try clear c5
    obtain ⟨kq, x24_2, rfl, HA, HJ2, HB⟩ := hcut
    cases kq with
    | zero => exact absurd HA.out (by simp [selfstablaw05_TermRenamesBack.j0])
    | succ kj2 =>
      have H := HA.out
      clear HA
      simp only [selfstablaw05_TermRenamesBack.j0] at H
      by_cases c8 : x24_2 = true
      · subst c8
        have H1 : ((selfstablaw05_awake.f kj2).bind fun t351 => (some t351)) = some r := by rw [if_pos rfl] at H; exact H
        clear H
        have H := H1
        clear H1
        replace H := Option.bind_eq_some_iff.mp H
        obtain ⟨t351, A90, H⟩ := H
        replace H : (some t351) = some r := H
        have A9 := Aside0.mk A90
        clear A90
        obtain rfl := Option.some.inj H
        go_wp2_with (first | ((with_reducible refine gate_callee (f := 11) rfl ?_); refine goesL_ (some 25) rfl rfl Try.func11 (by kernel_rfl) rfl #[] rfl (by (try simp only [List.map_toArray, List.map_cons, List.map_nil]); first | done | rfl | (simp only [List.length_drop, List.length_take]; rfl)) ?_; (with_reducible refine (selfstablaw05_awake.calls kj2  t351 _ A9.out).mono ?_); rintro e w10 ⟨rfl, hb⟩; refine ⟨_, rfl, ?_⟩; have n0_ := Aside0.mk (below_step (by repeat (first | (with_reducible first | exact HB.out | apply below_alloc | apply pw_below_drewN | apply below_drew1) | exact HB.out)) hb); clear HB; have HB := n0_; clear n0_; (try clear hb); (try clear hb2); (try clear hk); (try clear hi)))
        go_ret
        exact ⟨by first | rfl | (simp [errW_none, errW_some] <;> rfl) | (simp [*, errW_none, errW_some] <;> rfl), by repeat (first | (with_reducible first | exact HB.out | apply below_alloc | apply pw_below_drewN | apply below_drew1) | exact HB.out)⟩
      · replace c8 := Bool.eq_false_iff.mpr c8
        subst c8
        have H1 : ((selfstablaw05_permutation.f kj2 l1).bind fun t352 => (if 0 ≤ (t352.length : Int) then (if ((t352.length : Int) : Int).toNat ≤ 35184372088832 then (selfstablaw05_TermRenamesBack.l0 kj2 l0 t352 (List.replicate ((t352.length : Int) : Int).toNat 0) 0) else (none)) else (none))) = some r := by rw [if_neg (show ¬ (false = true) by decide)] at H; exact H
        clear H
        have H := H1
        clear H1
        replace H := Option.bind_eq_some_iff.mp H
        obtain ⟨t352, A110, H⟩ := H
        replace H : (if 0 ≤ (t352.length : Int) then (if ((t352.length : Int) : Int).toNat ≤ 35184372088832 then (selfstablaw05_TermRenamesBack.l0 kj2 l0 t352 (List.replicate ((t352.length : Int) : Int).toNat 0) 0) else (none)) else (none)) = some r := H
        have A11 := Aside0.mk A110
        clear A110
        by_cases c12 : 0 ≤ (t352.length : Int)
        · rw [if_pos c12] at H
          have c12b0 := eq_true c12
          have c12b1 : decide (0 ≤ (t352.length : Int)) = true := decide_eq_true c12
          clear c12
          by_cases c13 : ((t352.length : Int) : Int).toNat ≤ 35184372088832
          · rw [if_pos c13] at H
            have c13b0 := eq_true c13
            have c13b1 : decide (((t352.length : Int) : Int).toNat ≤ 35184372088832) = true := decide_eq_true c13
            clear c13
            obtain ⟨y355, hy355⟩ : ∃ y_ : List Int, y_ = (List.replicate ((t352.length : Int) : Int).toNat 0) := ⟨_, rfl⟩
            replace H : (selfstablaw05_TermRenamesBack.l0 kj2 l0 t352 y355 0) = some r := by first | (rw [hy355]; with_reducible exact H) | (have H2_ := (Option.bind_some _ _).symm.trans H; rw [hy355]; with_reducible exact H2_) | (have H2_ := (Option.bind_some _ _).symm.trans H; with_reducible exact H2_) | with_reducible exact H | (rw [hy355]; exact H) | exact H
            have Ny355 := Aside0.mk hy355
            clear hy355
            have H' := Aside0.mk H
            clear H
            go_wp2_with (first | ((with_reducible refine gate_callee (f := 31) rfl ?_); refine goesL_ (some 27) rfl rfl Try.func31 (by kernel_rfl) rfl #[.slice A1 l1.length c1] rfl (by (try simp only [List.map_toArray, List.map_cons, List.map_nil]); first | done | rfl | (simp only [List.length_drop, List.length_take]; rfl)) ?_; (with_reducible refine (selfstablaw05_permutation.calls kj2 _ _ l1 t352 _ ?side1 ?side2 A11.out).mono ?_); (case side1 => repeat (first | exact (Kd.C_below HR1.out HB.out) | (with_reducible refine Kd.C_alloc ?_ _) | (with_reducible refine Kd.C_drewN ?_ _) | (with_reducible refine Kd.C_drew ?_))); (case side2 => exact HC1.out); rintro e w14 ⟨v353, rfl, ho0, hb⟩; refine ⟨_, rfl, ?_⟩; have n0_ := Aside0.mk (Kd.R_lower ho0 (below_size (by repeat (first | (with_reducible first | exact HB.out | apply below_alloc | apply pw_below_drewN | apply below_drew1) | exact HB.out)))); have n1_ := Aside0.mk (below_step (by repeat (first | (with_reducible first | exact HB.out | apply below_alloc | apply pw_below_drewN | apply below_drew1) | exact HB.out)) hb); clear HB; have HO354 := n0_; have HB := n1_; clear n0_ n1_; (try clear hb); (try clear hb2); (try clear hk); (try clear hi); (try clear ho0); obtain ⟨Ao15, co15, eo15⟩ := Kd.R_slice HO354.out; subst eo15) | ((with_reducible refine gate_dst (N := 30) rfl ?_); (try (refine gate_guard (by rfl) ?_; dsimp only)); refine Kd.R_make (Kd.int .i64) _ 3 rfl (N := 30) rfl 37 _ _ rfl (t352.length : Int) rfl rfl Try.underlying37 (.int .i64 0) 8 info3 rfl (by decide) (by omega) 0 (ok := fun _ => True) (okp := fun _ => True) rfl (fun _ hk => hk) trivial (of_decide_eq_true (by first | (with_reducible assumption) | assumption)) (Nat.le_trans (Nat.mul_le_mul_right _ (of_decide_eq_true (by first | (with_reducible assumption) | assumption) : (t352.length : Int).toNat ≤ 35184372088832)) (by omega)) (Below.refl _ _) (Nat.le_refl _) ?_; intro v356 w16 ho17 hb hg_ hnew_; clear hg_ hnew_; (first | rw [← Ny355.out] at ho17 | (simp only [Int.reduceToNat] at ho17; rw [← Ny355.out] at ho17)); have n0_ := Aside0.mk (Kd.R_elder' (by (with_reducible repeat (first | apply Kd.R_alloc | apply Kd.R_drewN | apply Kd.R_drew)); exact HO354.out) (Kd.R_base ho17) hb); have n1_ := Aside0.mk (Kd.R_lower (Kd.R_new' ho17 (Kd.R_lt (by (with_reducible repeat (first | apply Kd.R_alloc | apply Kd.R_drewN | apply Kd.R_drew)); exact HO354.out))) (below_size (by repeat (first | (with_reducible first | exact HB.out | apply below_alloc | apply pw_below_drewN | apply below_drew1) | exact HB.out)))); have n2_ := Aside0.mk (below_step (by repeat (first | (with_reducible first | exact HB.out | apply below_alloc | apply pw_below_drewN | apply below_drew1) | exact HB.out)) hb); clear HO354; clear HB; have HO354 := n0_; have HO357 := n1_; have HB := n2_; clear n0_ n1_ n2_; clear hb ho17))
            go_loopg [7] kj2 (fun kq v7 w' => ∃ (x6_2 : List Int) (x7_2 : Int), v7 = .int .i64 x7_2 ∧ Aside0 (selfstablaw05_TermRenamesBack.l0 kq l0 t352 x6_2 x7_2 = some r) ∧ Aside0 (kq ≤ kj2) ∧ Aside0 (Kd.R (Kd.int .i64) 3 w' w.heap.size (fun k_ => some k_ ≠ (v356 : Value).ownBlock) (.slice Ao15 t352.length co15) t352) ∧ Aside0 (Kd.R (Kd.int .i64) 3 w' w.heap.size (fun k_ => some k_ ≠ ((.slice Ao15 t352.length co15) : Value).ownBlock) v356 x6_2) ∧ Aside0 (Below w.heap.size w w'))
            case atStart => exact ⟨(y355), (0), (by first | rfl | (simp; done) | (simp [*]; done)), H', ⟨Nat.le_refl _⟩, ⟨by (with_reducible repeat (first | apply Kd.R_alloc | apply Kd.R_drewN | apply Kd.R_drew)); exact Kd.R_mono HO354.out (fun _ hk => hk.2)⟩, ⟨by (with_reducible repeat (first | apply Kd.R_alloc | apply Kd.R_drewN | apply Kd.R_drew)); exact Kd.R_mono HO357.out (fun _ hk => hk.2)⟩, ⟨by repeat (first | (with_reducible first | exact HB.out | apply below_alloc | apply pw_below_drewN | apply below_drew1) | exact HB.out)⟩⟩
            case round =>
              clear H'
              try clear c1
              try clear p2
              try clear c3
              try clear c5
              try clear c8
              try clear c9
              try clear c10
              try clear c11
              try clear c12
              try clear c12b0
              try clear c12b1
              try clear c13
              try clear c13b0
              try clear c13b1
              try clear p2
              obtain ⟨x6_2, x7_2, rfl, HA, HK2, HO_5, HO_6, HB⟩ := hrel
              cases gk with
              | zero => exact absurd HA.out (by simp [selfstablaw05_TermRenamesBack.l0])
              | succ k2 =>
                have H := HA.out
                clear HA
                simp only [selfstablaw05_TermRenamesBack.l0] at H
                by_cases c18 : x7_2 < (t352.length : Int)
                · rw [if_pos c18] at H
                  have c18b0 : decide (x7_2 < (t352.length : Int)) = true := decide_eq_true c18
                  clear c18
                  by_cases c19 : 0 ≤ x7_2
                  · rw [if_pos c19] at H
                    have c19b0 : decide (0 ≤ x7_2) = true := decide_eq_true c19
                    clear c19
                    by_cases c20 : 0 ≤ (rd t352 x7_2)
                    · rw [if_pos c20] at H
                      have c20b0 : decide (0 ≤ (rd t352 x7_2)) = true := decide_eq_true c20
                      clear c20
                      by_cases c21 : (rd t352 x7_2) < (x6_2.length : Int)
                      · rw [if_pos c21] at H
                        have c21b0 : decide ((rd t352 x7_2) < (x6_2.length : Int)) = true := decide_eq_true c21
                        clear c21
                        obtain ⟨y359, hy359⟩ : ∃ y_ : List Int, y_ = (x6_2.set ((rd t352 x7_2) : Int).toNat x7_2) := ⟨_, rfl⟩
                        replace H : (selfstablaw05_TermRenamesBack.l0 k2 l0 t352 y359 (wrap64 (x7_2 + 1))) = some r := by first | (rw [hy359]; with_reducible exact H) | (have H2_ := (Option.bind_some _ _).symm.trans H; rw [hy359]; with_reducible exact H2_) | (have H2_ := (Option.bind_some _ _).symm.trans H; with_reducible exact H2_) | with_reducible exact H | (rw [hy359]; exact H) | exact H
                        have Ny359 := Aside0.mk hy359
                        clear hy359
                        have H' := Aside0.mk H
                        clear H
                        have p358 : 0 ≤ (x7_2 : Int) := of_decide_eq_true (by first | (with_reducible assumption) | assumption)
                        have q358 : x7_2 < (t352.length : Int) := of_decide_eq_true (by first | (with_reducible assumption) | assumption)
                        obtain ⟨ad358, e358, hx358_0⟩ := Kd.at_int (Kd.R_reads' HO_5.out).2.2 x7_2 p358 q358
                        cases e358
                        replace p358 := eq_true p358
                        replace q358 := eq_true q358
                        have p22 : 0 ≤ ((rd t352 x7_2) : Int) := of_decide_eq_true (by first | (with_reducible assumption) | assumption)
                        have q22 : ((rd t352 x7_2) : Int) < ((x6_2.length : Int) : Int) := of_decide_eq_true (by first | (with_reducible assumption) | assumption)
                        obtain ⟨go22, co22, eo22, gb22, gl22, cl22, HG22⟩ := Kd.R_form HO_6.out (by omega)
                        (first | cases eo22 | (injection eo22 with ea_ en_ ec_; (first | subst ea_ | (injection ea_ with ea_; subst ea_)); subst ec_; clear en_))
                        have GB22 := Aside0.mk gb22
                        have GG22 := Aside0.mk HG22
                        clear gb22 gl22 HG22
                        obtain ⟨hx22_0, hf22_0⟩ := Kd.R_celln 0 HO_6.out ((rd t352 x7_2) : Int) p22 q22
                        replace p22 := eq_true p22
                        replace q22 := eq_true q22
                        have HP23 := Kd.R_putg HO_6.out ((rd t352 x7_2) : Int) x7_2
                        go_wp2_with (first | ((with_reducible refine gate_store (t := 3) (p := 43) rfl ?_); refine store_event (t := 3) (p := 43) (v := ?vo_w24) (w1 := (wr.setCell ⟨go22, ((rd t352 x7_2) : Int).toNat, none⟩ (.int .i64 x7_2))) ?hg ?ho ?hn ?hr ?_; (case ho => rfl); (case hg => rfl); (case hn => rfl); (case hr => first | (go_simp; done) | (go_simp; rfl)); intro w24 hw; have hg : wr.grownBy w24 (some go22) := (by rw [hw]; exact HP23.2); have hp_ : Kd.R (Kd.int .i64) 3 w24 w.heap.size (fun k_ => some k_ ≠ (.slice (some ad358) t352.length co15 : Value).ownBlock) (.slice (some ⟨go22, 0, none⟩) x6_2.length co22) y359 := (by rw [hw, Ny359.out]; exact HP23.1); clear HP23; have n0_ := Aside0.mk (Kd.R_after (v := (.slice (some ⟨go22, 0, none⟩) x6_2.length co22)) (v1 := (.slice (some ⟨go22, 0, none⟩) x6_2.length co22)) (ok := (fun _ => True)) (by (with_reducible repeat (first | apply Kd.R_alloc | apply Kd.R_drewN | apply Kd.R_drew)); exact Kd.R_mono HO_5.out (fun _ hk => ⟨trivial, hk⟩)) hg (.inl rfl)); have n1_ := Aside0.mk (hp_); have n2_ := Aside0.mk ((by rw [hw]; exact below_set (HB.out) GB22.out : Below w.heap.size w w24)); clear HO_5; clear HO_6; clear HB; have HO_5 := n0_; have HO_6 := n1_; have HB := n2_; clear n0_ n1_ n2_; clear hg hw hp_))
                        go_roundg k2
                        case measure => have := HJ2.out; have := HK2.out; omega
                        case rel => exact ⟨(y359), (wrap64 (x7_2 + 1)), (by first | rfl | (simp; done) | (simp [*]; done)), H', ⟨by have := HJ2.out; have := HK2.out; omega⟩, ⟨by (with_reducible repeat (first | apply Kd.R_alloc | apply Kd.R_drewN | apply Kd.R_drew)); exact Kd.R_mono HO_5.out (fun _ hk => hk.2)⟩, ⟨by (with_reducible repeat (first | apply Kd.R_alloc | apply Kd.R_drewN | apply Kd.R_drew)); exact HO_6.out⟩, ⟨by repeat (first | (with_reducible first | exact HB.out | apply below_alloc | apply pw_below_drewN | apply below_drew1) | exact HB.out)⟩⟩
                      · rw [if_neg c21] at H
                        exact absurd H (by simp)
                    · rw [if_neg c20] at H
                      exact absurd H (by simp)
                  · rw [if_neg c19] at H
                    exact absurd H (by simp)
                · rw [if_neg c18] at H
                  have c18b0 : decide (x7_2 < (t352.length : Int)) = false := decide_eq_false c18
                  clear c18
                  replace H := Option.bind_eq_some_iff.mp H
                  obtain ⟨⟨t360, t361⟩, A250, H⟩ := H
                  replace H : ((term_Rename.f k2 t360 x6_2).bind fun bt364 => ((term_Reads.f k2 l0).bind fun bt368 => ((term_Reads.f k2 t360).bind fun bt370 => (selfstablaw05_TermRenamesBack.l1 k2 l0 t352 t360 t361 bt364.1 bt364.2 bt368.1 bt368.2 bt370.1 bt370.2 0)))) = some r := H
                  have A25 := Aside0.mk A250
                  clear A250
                  replace H := Option.bind_eq_some_iff.mp H
                  obtain ⟨⟨t364, t365⟩, A260, H⟩ := H
                  replace H : ((term_Reads.f k2 l0).bind fun bt368 => ((term_Reads.f k2 t360).bind fun bt370 => (selfstablaw05_TermRenamesBack.l1 k2 l0 t352 t360 t361 t364 t365 bt368.1 bt368.2 bt370.1 bt370.2 0))) = some r := H
                  have A26 := Aside0.mk A260
                  clear A260
                  replace H := Option.bind_eq_some_iff.mp H
                  obtain ⟨⟨t368, t369⟩, A270, H⟩ := H
                  replace H : ((term_Reads.f k2 t360).bind fun bt370 => (selfstablaw05_TermRenamesBack.l1 k2 l0 t352 t360 t361 t364 t365 t368 t369 bt370.1 bt370.2 0)) = some r := H
                  have A27 := Aside0.mk A270
                  clear A270
                  replace H := Option.bind_eq_some_iff.mp H
                  obtain ⟨⟨t370, t371⟩, A280, H⟩ := H
                  replace H : (selfstablaw05_TermRenamesBack.l1 k2 l0 t352 t360 t361 t364 t365 t368 t369 t370 t371 0) = some r := H
                  have A28 := Aside0.mk A280
                  clear A280
                  have H' := Aside0.mk H
                  clear H
                  go_wp2_with (first | ((with_reducible refine gate_callee (f := 26) rfl ?_); refine goesL_ (some 47) rfl rfl Try.func26 (by kernel_rfl) rfl #[.slice A0 l0.length c0, .slice Ao15 t352.length co15] rfl (by (try simp only [List.map_toArray, List.map_cons, List.map_nil]); first | done | rfl | (simp only [List.length_drop, List.length_take]; rfl)) ?_; (with_reducible refine (term_Rename.calls k2 _ _ l0 _ _ t352 t360 t361 _ ?side1 ?side2 ?side3 ?side4 A25.out).mono ?_); (case side1 => repeat (first | exact (Kd.C_below HR0.out HB.out) | (with_reducible refine Kd.C_alloc ?_ _) | (with_reducible refine Kd.C_drewN ?_ _) | (with_reducible refine Kd.C_drew ?_))); (case side2 => exact HC0.out); (case side3 => repeat (first | exact (Kd.R_reads' HO_5.out).2.2 | (with_reducible refine Kd.C_alloc ?_ _) | (with_reducible refine Kd.C_drewN ?_ _) | (with_reducible refine Kd.C_drew ?_))); (case side4 => exact (Kd.R_reads' HO_5.out).2.1); rintro e w29 ⟨v362, rfl, ho0, hb⟩; refine ⟨_, rfl, ?_⟩; have n0_ := Aside0.mk (Kd.R_below (by (with_reducible repeat (first | apply Kd.R_alloc | apply Kd.R_drewN | apply Kd.R_drew)); exact HO_5.out) hb); have n1_ := Aside0.mk (Kd.R_below (by (with_reducible repeat (first | apply Kd.R_alloc | apply Kd.R_drewN | apply Kd.R_drew)); exact HO_6.out) hb); have n2_ := Aside0.mk (Kd.R_lower ho0 (below_size (by repeat (first | (with_reducible first | exact HB.out | apply below_alloc | apply pw_below_drewN | apply below_drew1) | exact HB.out)))); have n3_ := Aside0.mk (below_step (by repeat (first | (with_reducible first | exact HB.out | apply below_alloc | apply pw_below_drewN | apply below_drew1) | exact HB.out)) hb); clear HO_5; clear HO_6; clear HB; have HO_5 := n0_; have HO_6 := n1_; have HO363 := n2_; have HB := n3_; clear n0_ n1_ n2_ n3_; (try clear hb); (try clear hb2); (try clear hk); (try clear hi); (try clear ho0); obtain ⟨Ao30, co30, eo30⟩ := Kd.R_slice HO363.out; subst eo30; obtain ⟨Ao31, co31, eo31⟩ := Kd.R_slice HO_6.out; subst eo31) | ((with_reducible refine gate_callee (f := 26) rfl ?_); refine goesL_ (some 53) rfl rfl Try.func26 (by kernel_rfl) rfl #[.slice Ao30 t360.length co30, .slice Ao31 x6_2.length co31] rfl (by (try simp only [List.map_toArray, List.map_cons, List.map_nil]); first | done | rfl | (simp only [List.length_drop, List.length_take]; rfl)) ?_; (with_reducible refine (term_Rename.calls k2 _ _ t360 _ _ x6_2 t364 t365 _ ?side1 ?side2 ?side3 ?side4 A26.out).mono ?_); (case side1 => repeat (first | exact (Kd.R_reads' HO363.out).2.2 | (with_reducible refine Kd.C_alloc ?_ _) | (with_reducible refine Kd.C_drewN ?_ _) | (with_reducible refine Kd.C_drew ?_))); (case side2 => exact (Kd.R_reads' HO363.out).2.1); (case side3 => repeat (first | exact (Kd.R_reads' HO_6.out).2.2 | (with_reducible refine Kd.C_alloc ?_ _) | (with_reducible refine Kd.C_drewN ?_ _) | (with_reducible refine Kd.C_drew ?_))); (case side4 => exact (Kd.R_reads' HO_6.out).2.1); rintro e w32 ⟨v366, rfl, ho0, hb⟩; refine ⟨_, rfl, ?_⟩; have n0_ := Aside0.mk (Kd.R_below (by (with_reducible repeat (first | apply Kd.R_alloc | apply Kd.R_drewN | apply Kd.R_drew)); exact HO_5.out) hb); have n1_ := Aside0.mk (Kd.R_below (by (with_reducible repeat (first | apply Kd.R_alloc | apply Kd.R_drewN | apply Kd.R_drew)); exact HO_6.out) hb); have n2_ := Aside0.mk (Kd.R_elder' (by (with_reducible repeat (first | apply Kd.R_alloc | apply Kd.R_drewN | apply Kd.R_drew)); exact HO363.out) (Kd.R_base ho0) hb); have n3_ := Aside0.mk (Kd.R_lower (Kd.R_new' ho0 (Kd.R_lt (by (with_reducible repeat (first | apply Kd.R_alloc | apply Kd.R_drewN | apply Kd.R_drew)); exact HO363.out))) (below_size (by repeat (first | (with_reducible first | exact HB.out | apply below_alloc | apply pw_below_drewN | apply below_drew1) | exact HB.out)))); have n4_ := Aside0.mk (below_step (by repeat (first | (with_reducible first | exact HB.out | apply below_alloc | apply pw_below_drewN | apply below_drew1) | exact HB.out)) hb); clear HO_5; clear HO_6; clear HO363; clear HB; have HO_5 := n0_; have HO_6 := n1_; have HO363 := n2_; have HO367 := n3_; have HB := n4_; clear n0_ n1_ n2_ n3_ n4_; (try clear hb); (try clear hb2); (try clear hk); (try clear hi); (try clear ho0)) | ((with_reducible refine gate_callee (f := 28) rfl ?_); refine goesL_ (some 58) rfl rfl Try.func28 (by kernel_rfl) rfl #[.slice A0 l0.length c0] rfl (by (try simp only [List.map_toArray, List.map_cons, List.map_nil]); first | done | rfl | (simp only [List.length_drop, List.length_take]; rfl)) ?_; (with_reducible refine (term_Reads.calls k2 _ _ l0 t368 t369 _ ?side1 ?side2 A27.out).mono ?_); (case side1 => repeat (first | exact (Kd.C_below HR0.out HB.out) | (with_reducible refine Kd.C_alloc ?_ _) | (with_reducible refine Kd.C_drewN ?_ _) | (with_reducible refine Kd.C_drew ?_))); (case side2 => exact HC0.out); rintro e w33 ⟨rfl, hb⟩; refine ⟨_, rfl, ?_⟩; have n0_ := Aside0.mk (Kd.R_below (by (with_reducible repeat (first | apply Kd.R_alloc | apply Kd.R_drewN | apply Kd.R_drew)); exact HO_5.out) hb); have n1_ := Aside0.mk (Kd.R_below (by (with_reducible repeat (first | apply Kd.R_alloc | apply Kd.R_drewN | apply Kd.R_drew)); exact HO_6.out) hb); have n2_ := Aside0.mk (Kd.R_below (by (with_reducible repeat (first | apply Kd.R_alloc | apply Kd.R_drewN | apply Kd.R_drew)); exact HO363.out) hb); have n3_ := Aside0.mk (Kd.R_below (by (with_reducible repeat (first | apply Kd.R_alloc | apply Kd.R_drewN | apply Kd.R_drew)); exact HO367.out) hb); have n4_ := Aside0.mk (below_step (by repeat (first | (with_reducible first | exact HB.out | apply below_alloc | apply pw_below_drewN | apply below_drew1) | exact HB.out)) hb); clear HO_5; clear HO_6; clear HO363; clear HO367; clear HB; have HO_5 := n0_; have HO_6 := n1_; have HO363 := n2_; have HO367 := n3_; have HB := n4_; clear n0_ n1_ n2_ n3_ n4_; (try clear hb); (try clear hb2); (try clear hk); (try clear hi)) | ((with_reducible refine gate_callee (f := 28) rfl ?_); refine goesL_ (some 63) rfl rfl Try.func28 (by kernel_rfl) rfl #[.slice Ao30 t360.length co30] rfl (by (try simp only [List.map_toArray, List.map_cons, List.map_nil]); first | done | rfl | (simp only [List.length_drop, List.length_take]; rfl)) ?_; (with_reducible refine (term_Reads.calls k2 _ _ t360 t370 t371 _ ?side1 ?side2 A28.out).mono ?_); (case side1 => repeat (first | exact (Kd.R_reads' HO363.out).2.2 | (with_reducible refine Kd.C_alloc ?_ _) | (with_reducible refine Kd.C_drewN ?_ _) | (with_reducible refine Kd.C_drew ?_))); (case side2 => exact (Kd.R_reads' HO363.out).2.1); rintro e w34 ⟨rfl, hb⟩; refine ⟨_, rfl, ?_⟩; have n0_ := Aside0.mk (Kd.R_below (by (with_reducible repeat (first | apply Kd.R_alloc | apply Kd.R_drewN | apply Kd.R_drew)); exact HO_5.out) hb); have n1_ := Aside0.mk (Kd.R_below (by (with_reducible repeat (first | apply Kd.R_alloc | apply Kd.R_drewN | apply Kd.R_drew)); exact HO_6.out) hb); have n2_ := Aside0.mk (Kd.R_below (by (with_reducible repeat (first | apply Kd.R_alloc | apply Kd.R_drewN | apply Kd.R_drew)); exact HO363.out) hb); have n3_ := Aside0.mk (Kd.R_below (by (with_reducible repeat (first | apply Kd.R_alloc | apply Kd.R_drewN | apply Kd.R_drew)); exact HO367.out) hb); have n4_ := Aside0.mk (below_step (by repeat (first | (with_reducible first | exact HB.out | apply below_alloc | apply pw_below_drewN | apply below_drew1) | exact HB.out)) hb); clear HO_5; clear HO_6; clear HO363; clear HO367; clear HB; have HO_5 := n0_; have HO_6 := n1_; have HO363 := n2_; have HO367 := n3_; have HB := n4_; clear n0_ n1_ n2_ n3_ n4_; (try clear hb); (try clear hb2); (try clear hk); (try clear hi)))
                  go_loopg [16] k2 (fun kq v16 w' => ∃ (x16_3 : Int), v16 = .int .i64 x16_3 ∧ Aside0 (selfstablaw05_TermRenamesBack.l1 kq l0 t352 t360 t361 t364 t365 t368 t369 t370 t371 x16_3 = some r) ∧ Aside0 (kq ≤ k2) ∧ Aside0 (Kd.R (Kd.int .i64) 3 w' w.heap.size (fun _ => True) (.slice Ao15 t352.length co15) t352) ∧ Aside0 (Kd.R k31 31 w' w.heap.size (fun k_ => some k_ ≠ (v366 : Value).ownBlock) (.slice Ao30 t360.length co30) t360) ∧ Aside0 (Kd.R k31 31 w' w.heap.size (fun k_ => some k_ ≠ ((.slice Ao30 t360.length co30) : Value).ownBlock) v366 t364) ∧ Aside0 (Below w.heap.size w w'))
                  case atStart => exact ⟨(0), (by first | rfl | (simp; done) | (simp [*]; done)), H', ⟨Nat.le_refl _⟩, ⟨by (with_reducible repeat (first | apply Kd.R_alloc | apply Kd.R_drewN | apply Kd.R_drew)); exact Kd.R_mono HO_5.out (fun _ hk => trivial)⟩, ⟨by (with_reducible repeat (first | apply Kd.R_alloc | apply Kd.R_drewN | apply Kd.R_drew)); exact Kd.R_mono HO363.out (fun _ hk => hk.2)⟩, ⟨by (with_reducible repeat (first | apply Kd.R_alloc | apply Kd.R_drewN | apply Kd.R_drew)); exact Kd.R_mono HO367.out (fun _ hk => hk.2)⟩, ⟨by repeat (first | (with_reducible first | exact HB.out | apply below_alloc | apply pw_below_drewN | apply below_drew1) | exact HB.out)⟩⟩
                  case round =>
                    clear H'
                    try clear c1
                    try clear c2
                    try clear p2
                    try clear q2
                    try clear hx2
                    try clear hf2
                    try clear c3
                    try clear p3
                    try clear q3
                    try clear hx3
                    try clear c5
                    try clear p6
                    try clear c8
                    try clear c9
                    try clear c10
                    try clear c11
                    try clear c12
                    try clear c12b0
                    try clear c12b1
                    try clear c13
                    try clear c13b0
                    try clear c13b1
                    try clear c18
                    try clear c18b0
                    try clear c19
                    try clear c19b0
                    try clear c20
                    try clear c20b0
                    try clear c21
                    try clear c21b0
                    try clear p22
                    try clear q22
                    try clear hx22
                    try clear hf22
                    try clear c26
                    try clear c28
                    try clear c31
                    try clear hx22_0
                    try clear hx358_0
                    try clear p2
                    try clear p22
                    try clear p358
                    try clear q22
                    try clear q358
                    obtain ⟨x16_3, rfl, HA, HK3, HO_5, HO_8, HO_10, HB⟩ := hrel
                    cases gk with
                    | zero => exact absurd HA.out (by simp [selfstablaw05_TermRenamesBack.l1])
                    | succ k3 =>
                      have H := HA.out
                      clear HA
                      simp only [selfstablaw05_TermRenamesBack.l1] at H
                      by_cases c35 : x16_3 < (t352.length : Int)
                      · rw [if_pos c35] at H
                        have c35b0 : decide (x16_3 < (t352.length : Int)) = true := decide_eq_true c35
                        clear c35
                        obtain ⟨ji36, hji36⟩ : ∃ j_ : Int, (IntKind.u64.wrap (x16_3)) = j_ := ⟨_, rfl⟩
                        replace H : (if 0 ≤ (ji36) then (if 0 ≤ x16_3 then (if 0 ≤ (IntKind.u64.wrap (rd t352 x16_3)) then (if (Go.bits .and .u32 (shr .u32 t368 (ji36)) 1) = (Go.bits .and .u32 (shr .u32 t370 (IntKind.u64.wrap (rd t352 x16_3))) 1) then (if (Go.bits .and .u32 (shr .u32 t369 (ji36)) 1) = (Go.bits .and .u32 (shr .u32 t371 (IntKind.u64.wrap (rd t352 x16_3))) 1) then (selfstablaw05_TermRenamesBack.l1 k3 l0 t352 t360 t361 t364 t365 t368 t369 t370 t371 (wrap64 (x16_3 + 1))) else (some false)) else (some false)) else (none)) else (none)) else (none)) = some r := by first | (rw [hji36] at H; exact H) | (simp only [hji36] at H ⊢; exact H)
                        by_cases c37 : 0 ≤ (ji36)
                        · rw [if_pos c37] at H
                          have c37b0 := eq_true c37
                          have c37b1 : decide (0 ≤ (ji36)) = true := decide_eq_true c37
                          clear c37
                          obtain ⟨ji38, hji38⟩ : ∃ j_ : Int, (shr .u32 t368 (ji36)) = j_ := ⟨_, rfl⟩
                          replace H : (if 0 ≤ x16_3 then (if 0 ≤ (IntKind.u64.wrap (rd t352 x16_3)) then (if (Go.bits .and .u32 (ji38) 1) = (Go.bits .and .u32 (shr .u32 t370 (IntKind.u64.wrap (rd t352 x16_3))) 1) then (if (Go.bits .and .u32 (shr .u32 t369 (ji36)) 1) = (Go.bits .and .u32 (shr .u32 t371 (IntKind.u64.wrap (rd t352 x16_3))) 1) then (selfstablaw05_TermRenamesBack.l1 k3 l0 t352 t360 t361 t364 t365 t368 t369 t370 t371 (wrap64 (x16_3 + 1))) else (some false)) else (some false)) else (none)) else (none)) = some r := by first | (rw [hji38] at H; exact H) | (simp only [hji38] at H ⊢; exact H)
                          have hji38_ : (t368 / 2 ^ min (ji36).toNat 32) = ji38 := hji38
                          have hji38z : (ji36) ≤ 32 → (t368 / 2 ^ (ji36).toNat) = ji38 := shr_small hji38
                          by_cases c39 : 0 ≤ x16_3
                          · rw [if_pos c39] at H
                            have c39b0 : decide (0 ≤ x16_3) = true := decide_eq_true c39
                            clear c39
                            obtain ⟨ji40, hji40⟩ : ∃ j_ : Int, (IntKind.u64.wrap (rd t352 x16_3)) = j_ := ⟨_, rfl⟩
                            replace H : (if 0 ≤ (ji40) then (if (Go.bits .and .u32 (ji38) 1) = (Go.bits .and .u32 (shr .u32 t370 (ji40)) 1) then (if (Go.bits .and .u32 (shr .u32 t369 (ji36)) 1) = (Go.bits .and .u32 (shr .u32 t371 (ji40)) 1) then (selfstablaw05_TermRenamesBack.l1 k3 l0 t352 t360 t361 t364 t365 t368 t369 t370 t371 (wrap64 (x16_3 + 1))) else (some false)) else (some false)) else (none)) = some r := by first | (rw [hji40] at H; exact H) | (simp only [hji40] at H ⊢; exact H)
                            by_cases c41 : 0 ≤ (ji40)
                            · rw [if_pos c41] at H
                              have c41b0 := eq_true c41
                              have c41b1 : decide (0 ≤ (ji40)) = true := decide_eq_true c41
                              clear c41
                              obtain ⟨ji42, hji42⟩ : ∃ j_ : Int, (shr .u32 t370 (ji40)) = j_ := ⟨_, rfl⟩
                              replace H : (if (Go.bits .and .u32 (ji38) 1) = (Go.bits .and .u32 (ji42) 1) then (if (Go.bits .and .u32 (shr .u32 t369 (ji36)) 1) = (Go.bits .and .u32 (shr .u32 t371 (ji40)) 1) then (selfstablaw05_TermRenamesBack.l1 k3 l0 t352 t360 t361 t364 t365 t368 t369 t370 t371 (wrap64 (x16_3 + 1))) else (some false)) else (some false)) = some r := by first | (rw [hji42] at H; exact H) | (simp only [hji42] at H ⊢; exact H)
                              have hji42_ : (t370 / 2 ^ min (ji40).toNat 32) = ji42 := hji42
                              have hji42z : (ji40) ≤ 32 → (t370 / 2 ^ (ji40).toNat) = ji42 := shr_small hji42
                              by_cases c43 : (Go.bits .and .u32 (ji38) 1) = (Go.bits .and .u32 (ji42) 1)
                              · rw [if_pos c43] at H
                                have c43b0 : ((Go.bits .and .u32 (ji38) 1) == (Go.bits .and .u32 (ji42) 1)) = true := beq_iff_eq.mpr c43
                                have c43b1 : ((Go.bits .and .u32 (ji38) 1) != (Go.bits .and .u32 (ji42) 1)) = false := bne_eq_false_iff_eq.mpr c43
                                clear c43
                                have c44b0 := eq_true (of_decide_eq_true (by first | (with_reducible assumption) | assumption) : 0 ≤ (ji36))
                                obtain ⟨ji45, hji45⟩ : ∃ j_ : Int, (shr .u32 t369 (ji36)) = j_ := ⟨_, rfl⟩
                                replace H : (if (Go.bits .and .u32 (ji45) 1) = (Go.bits .and .u32 (shr .u32 t371 (ji40)) 1) then (selfstablaw05_TermRenamesBack.l1 k3 l0 t352 t360 t361 t364 t365 t368 t369 t370 t371 (wrap64 (x16_3 + 1))) else (some false)) = some r := by first | (rw [hji45] at H; exact H) | (simp only [hji45] at H ⊢; exact H)
                                have hji45_ : (t369 / 2 ^ min (ji36).toNat 32) = ji45 := hji45
                                have hji45z : (ji36) ≤ 32 → (t369 / 2 ^ (ji36).toNat) = ji45 := shr_small hji45
                                have c46b0 := eq_true (of_decide_eq_true (by first | (with_reducible assumption) | assumption) : 0 ≤ (ji40))
                                obtain ⟨ji47, hji47⟩ : ∃ j_ : Int, (shr .u32 t371 (ji40)) = j_ := ⟨_, rfl⟩
                                replace H : (if (Go.bits .and .u32 (ji45) 1) = (Go.bits .and .u32 (ji47) 1) then (selfstablaw05_TermRenamesBack.l1 k3 l0 t352 t360 t361 t364 t365 t368 t369 t370 t371 (wrap64 (x16_3 + 1))) else (some false)) = some r := by first | (rw [hji47] at H; exact H) | (simp only [hji47] at H ⊢; exact H)
                                have hji47_ : (t371 / 2 ^ min (ji40).toNat 32) = ji47 := hji47
                                have hji47z : (ji40) ≤ 32 → (t371 / 2 ^ (ji40).toNat) = ji47 := shr_small hji47
                                by_cases c48 : (Go.bits .and .u32 (ji45) 1) = (Go.bits .and .u32 (ji47) 1)
                                · rw [if_pos c48] at H
                                  have c48b0 : ((Go.bits .and .u32 (ji45) 1) == (Go.bits .and .u32 (ji47) 1)) = true := beq_iff_eq.mpr c48
                                  have c48b1 : ((Go.bits .and .u32 (ji45) 1) != (Go.bits .and .u32 (ji47) 1)) = false := bne_eq_false_iff_eq.mpr c48
                                  clear c48
                                  have H' := Aside0.mk H
                                  clear H
                                  have p372 : 0 ≤ (x16_3 : Int) := of_decide_eq_true (by first | (with_reducible assumption) | assumption)
                                  have q372 : x16_3 < (t352.length : Int) := of_decide_eq_true (by first | (with_reducible assumption) | assumption)
                                  obtain ⟨ad372, e372, hx372_0⟩ := Kd.at_int (Kd.R_reads' HO_5.out).2.2 x16_3 p372 q372
                                  cases e372
                                  replace p372 := eq_true p372
                                  replace q372 := eq_true q372
                                  have p373 : 0 ≤ (x16_3 : Int) := of_decide_eq_true (by first | (with_reducible assumption) | assumption)
                                  have q373 : x16_3 < (t352.length : Int) := of_decide_eq_true (by first | (with_reducible assumption) | assumption)
                                  obtain ⟨ad373, e373, hx373_0⟩ := Kd.at_int (Kd.R_reads' HO_5.out).2.2 x16_3 p373 q373
                                  obtain rfl : ad372 = ad373 := (by injection e373)
                                  replace p373 := eq_true p373
                                  replace q373 := eq_true q373
                                  go_wp2
                                  go_roundg k3
                                  case measure => have := HJ2.out; have := HK2.out; have := HK3.out; omega
                                  case rel => exact ⟨(wrap64 (x16_3 + 1)), (by first | rfl | (simp; done) | (simp [*]; done)), H', ⟨by have := HJ2.out; have := HK2.out; have := HK3.out; omega⟩, ⟨by (with_reducible repeat (first | apply Kd.R_alloc | apply Kd.R_drewN | apply Kd.R_drew)); exact HO_5.out⟩, ⟨by (with_reducible repeat (first | apply Kd.R_alloc | apply Kd.R_drewN | apply Kd.R_drew)); exact HO_8.out⟩, ⟨by (with_reducible repeat (first | apply Kd.R_alloc | apply Kd.R_drewN | apply Kd.R_drew)); exact HO_10.out⟩, ⟨by repeat (first | (with_reducible first | exact HB.out | apply below_alloc | apply pw_below_drewN | apply below_drew1) | exact HB.out)⟩⟩
                                · rw [if_neg c48] at H
                                  have c48b0 : ((Go.bits .and .u32 (ji45) 1) == (Go.bits .and .u32 (ji47) 1)) = false := beq_eq_false_iff_ne.mpr c48
                                  have c48b1 : ((Go.bits .and .u32 (ji45) 1) != (Go.bits .and .u32 (ji47) 1)) = true := bne_iff_ne.mpr c48
                                  obtain rfl := Option.some.inj H
                                  have p372 : 0 ≤ (x16_3 : Int) := of_decide_eq_true (by first | (with_reducible assumption) | assumption)
                                  have q372 : x16_3 < (t352.length : Int) := of_decide_eq_true (by first | (with_reducible assumption) | assumption)
                                  obtain ⟨ad372, e372, hx372_0⟩ := Kd.at_int (Kd.R_reads' HO_5.out).2.2 x16_3 p372 q372
                                  cases e372
                                  replace p372 := eq_true p372
                                  replace q372 := eq_true q372
                                  have p373 : 0 ≤ (x16_3 : Int) := of_decide_eq_true (by first | (with_reducible assumption) | assumption)
                                  have q373 : x16_3 < (t352.length : Int) := of_decide_eq_true (by first | (with_reducible assumption) | assumption)
                                  obtain ⟨ad373, e373, hx373_0⟩ := Kd.at_int (Kd.R_reads' HO_5.out).2.2 x16_3 p373 q373
                                  obtain rfl : ad372 = ad373 := (by injection e373)
                                  replace p373 := eq_true p373
                                  replace q373 := eq_true q373
                                  go_wp2
                                  go_ret
                                  exact ⟨by first | rfl | (simp [errW_none, errW_some] <;> rfl) | (simp only [← hji36, ← hji38, ← hji40, ← hji42, ← hji45, ← hji47]; first | rfl | (simp [errW_none, errW_some] <;> rfl)) | (simp [*, errW_none, errW_some] <;> rfl), by repeat (first | (with_reducible first | exact HB.out | apply below_alloc | apply pw_below_drewN | apply below_drew1) | exact HB.out)⟩
                              · rw [if_neg c43] at H
                                have c43b0 : ((Go.bits .and .u32 (ji38) 1) == (Go.bits .and .u32 (ji42) 1)) = false := beq_eq_false_iff_ne.mpr c43
                                have c43b1 : ((Go.bits .and .u32 (ji38) 1) != (Go.bits .and .u32 (ji42) 1)) = true := bne_iff_ne.mpr c43
                                obtain rfl := Option.some.inj H
                                have p372 : 0 ≤ (x16_3 : Int) := of_decide_eq_true (by first | (with_reducible assumption) | assumption)
                                have q372 : x16_3 < (t352.length : Int) := of_decide_eq_true (by first | (with_reducible assumption) | assumption)
                                obtain ⟨ad372, e372, hx372_0⟩ := Kd.at_int (Kd.R_reads' HO_5.out).2.2 x16_3 p372 q372
                                cases e372
                                replace p372 := eq_true p372
                                replace q372 := eq_true q372
                                go_wp2
                                go_ret
                                exact ⟨by first | rfl | (simp [errW_none, errW_some] <;> rfl) | (simp only [← hji36, ← hji38, ← hji40, ← hji42]; first | rfl | (simp [errW_none, errW_some] <;> rfl)) | (simp [*, errW_none, errW_some] <;> rfl), by repeat (first | (with_reducible first | exact HB.out | apply below_alloc | apply pw_below_drewN | apply below_drew1) | exact HB.out)⟩
                            · rw [if_neg c41] at H
                              exact absurd H (by simp)
                          · rw [if_neg c39] at H
                            exact absurd H (by simp)
                        · rw [if_neg c37] at H
                          exact absurd H (by simp)
                      · rw [if_neg c35] at H
                        have c35b0 : decide (x16_3 < (t352.length : Int)) = false := decide_eq_false c35
                        clear c35
                        replace H := Option.bind_eq_some_iff.mp H
                        obtain ⟨t374, A490, H⟩ := H
                        replace H : (if t374 = true then (if t361 = 0 then (if t365 = 0 then ((selfstabref05_Same.f k3 l0 t364).bind fun t375 => (if t375 = true then (some ((t360.length : Int) == (l0.length : Int))) else (some false))) else (some false)) else (some false)) else (some false)) = some r := H
                        have A49 := Aside0.mk A490
                        clear A490
                        by_cases c50 : t374 = true
                        · subst c50
                          have H1 : (if t361 = 0 then (if t365 = 0 then ((selfstabref05_Same.f k3 l0 t364).bind fun t375 => (if t375 = true then (some ((t360.length : Int) == (l0.length : Int))) else (some false))) else (some false)) else (some false)) = some r := by rw [if_pos rfl] at H; exact H
                          clear H
                          have H := H1
                          clear H1
                          by_cases c51 : t361 = 0
                          · rw [if_pos c51] at H
                            have c51b0 : (t361 == 0) = true := beq_iff_eq.mpr c51
                            have c51b1 : (t361 != 0) = false := bne_eq_false_iff_eq.mpr c51
                            clear c51
                            by_cases c52 : t365 = 0
                            · rw [if_pos c52] at H
                              have c52b0 : (t365 == 0) = true := beq_iff_eq.mpr c52
                              have c52b1 : (t365 != 0) = false := bne_eq_false_iff_eq.mpr c52
                              clear c52
                              replace H := Option.bind_eq_some_iff.mp H
                              obtain ⟨t375, A530, H⟩ := H
                              replace H : (if t375 = true then (some ((t360.length : Int) == (l0.length : Int))) else (some false)) = some r := H
                              have A53 := Aside0.mk A530
                              clear A530
                              by_cases c54 : t375 = true
                              · subst c54
                                have H1 : (some ((t360.length : Int) == (l0.length : Int))) = some r := by rw [if_pos rfl] at H; exact H
                                clear H
                                have H := H1
                                clear H1
                                obtain rfl := Option.some.inj H
                                go_wp2_with (first | ((with_reducible refine gate_callee (f := 11) rfl ?_); refine goesL_ (some 102) rfl rfl Try.func11 (by kernel_rfl) rfl #[] rfl (by (try simp only [List.map_toArray, List.map_cons, List.map_nil]); first | done | rfl | (simp only [List.length_drop, List.length_take]; rfl)) ?_; (with_reducible refine (selfstablaw05_awake.calls k3  true _ A49.out).mono ?_); rintro e w55 ⟨rfl, hb⟩; refine ⟨_, rfl, ?_⟩; have n0_ := Aside0.mk (Kd.R_below (by (with_reducible repeat (first | apply Kd.R_alloc | apply Kd.R_drewN | apply Kd.R_drew)); exact HO_5.out) hb); have n1_ := Aside0.mk (Kd.R_below (by (with_reducible repeat (first | apply Kd.R_alloc | apply Kd.R_drewN | apply Kd.R_drew)); exact HO_8.out) hb); have n2_ := Aside0.mk (Kd.R_below (by (with_reducible repeat (first | apply Kd.R_alloc | apply Kd.R_drewN | apply Kd.R_drew)); exact HO_10.out) hb); have n3_ := Aside0.mk (below_step (by repeat (first | (with_reducible first | exact HB.out | apply below_alloc | apply pw_below_drewN | apply below_drew1) | exact HB.out)) hb); clear HO_5; clear HO_8; clear HO_10; clear HB; have HO_5 := n0_; have HO_8 := n1_; have HO_10 := n2_; have HB := n3_; clear n0_ n1_ n2_ n3_; (try clear hb); (try clear hb2); (try clear hk); (try clear hi); obtain ⟨Ao56, co56, eo56⟩ := Kd.R_slice HO_10.out; subst eo56) | (go_at_call 30; (with_reducible refine (selfstabref05_Same.calls k3 _ _ l0 _ _ t364 true _ ?side1 ?side2 ?side3 ?side4 A53.out).mono ?_); (case side1 => repeat (first | exact (Kd.C_below HR0.out HB.out) | (with_reducible refine Kd.C_alloc ?_ _) | (with_reducible refine Kd.C_drewN ?_ _) | (with_reducible refine Kd.C_drew ?_))); (case side2 => exact HC0.out); (case side3 => repeat (first | exact (Kd.R_reads' HO_10.out).2.2 | (with_reducible refine Kd.C_alloc ?_ _) | (with_reducible refine Kd.C_drewN ?_ _) | (with_reducible refine Kd.C_drew ?_))); (case side4 => exact (Kd.R_reads' HO_10.out).2.1); rintro e w' ⟨rfl, ⟨nd, rfl⟩⟩))
                                go_ret
                                exact ⟨by first | rfl | (simp [errW_none, errW_some] <;> rfl) | (simp [*, errW_none, errW_some] <;> rfl), by repeat (first | (with_reducible first | exact HB.out | apply below_alloc | apply pw_below_drewN | apply below_drew1) | exact HB.out)⟩
                              · replace c54 := Bool.eq_false_iff.mpr c54
                                subst c54
                                have H1 : (some false) = some r := by rw [if_neg (show ¬ (false = true) by decide)] at H; exact H
                                clear H
                                have H := H1
                                clear H1
                                obtain rfl := Option.some.inj H
                                go_wp2_with (first | ((with_reducible refine gate_callee (f := 11) rfl ?_); refine goesL_ (some 102) rfl rfl Try.func11 (by kernel_rfl) rfl #[] rfl (by (try simp only [List.map_toArray, List.map_cons, List.map_nil]); first | done | rfl | (simp only [List.length_drop, List.length_take]; rfl)) ?_; (with_reducible refine (selfstablaw05_awake.calls k3  true _ A49.out).mono ?_); rintro e w57 ⟨rfl, hb⟩; refine ⟨_, rfl, ?_⟩; have n0_ := Aside0.mk (Kd.R_below (by (with_reducible repeat (first | apply Kd.R_alloc | apply Kd.R_drewN | apply Kd.R_drew)); exact HO_5.out) hb); have n1_ := Aside0.mk (Kd.R_below (by (with_reducible repeat (first | apply Kd.R_alloc | apply Kd.R_drewN | apply Kd.R_drew)); exact HO_8.out) hb); have n2_ := Aside0.mk (Kd.R_below (by (with_reducible repeat (first | apply Kd.R_alloc | apply Kd.R_drewN | apply Kd.R_drew)); exact HO_10.out) hb); have n3_ := Aside0.mk (below_step (by repeat (first | (with_reducible first | exact HB.out | apply below_alloc | apply pw_below_drewN | apply below_drew1) | exact HB.out)) hb); clear HO_5; clear HO_8; clear HO_10; clear HB; have HO_5 := n0_; have HO_8 := n1_; have HO_10 := n2_; have HB := n3_; clear n0_ n1_ n2_ n3_; (try clear hb); (try clear hb2); (try clear hk); (try clear hi); obtain ⟨Ao58, co58, eo58⟩ := Kd.R_slice HO_10.out; subst eo58) | (go_at_call 30; (with_reducible refine (selfstabref05_Same.calls k3 _ _ l0 _ _ t364 false _ ?side1 ?side2 ?side3 ?side4 A53.out).mono ?_); (case side1 => repeat (first | exact (Kd.C_below HR0.out HB.out) | (with_reducible refine Kd.C_alloc ?_ _) | (with_reducible refine Kd.C_drewN ?_ _) | (with_reducible refine Kd.C_drew ?_))); (case side2 => exact HC0.out); (case side3 => repeat (first | exact (Kd.R_reads' HO_10.out).2.2 | (with_reducible refine Kd.C_alloc ?_ _) | (with_reducible refine Kd.C_drewN ?_ _) | (with_reducible refine Kd.C_drew ?_))); (case side4 => exact (Kd.R_reads' HO_10.out).2.1); rintro e w' ⟨rfl, ⟨nd, rfl⟩⟩))
                                go_ret
                                exact ⟨by first | rfl | (simp [errW_none, errW_some] <;> rfl) | (simp [*, errW_none, errW_some] <;> rfl), by repeat (first | (with_reducible first | exact HB.out | apply below_alloc | apply pw_below_drewN | apply below_drew1) | exact HB.out)⟩
                            · rw [if_neg c52] at H
                              have c52b0 : (t365 == 0) = false := beq_eq_false_iff_ne.mpr c52
                              have c52b1 : (t365 != 0) = true := bne_iff_ne.mpr c52
                              obtain rfl := Option.some.inj H
                              go_wp2_with (first | ((with_reducible refine gate_callee (f := 11) rfl ?_); refine goesL_ (some 102) rfl rfl Try.func11 (by kernel_rfl) rfl #[] rfl (by (try simp only [List.map_toArray, List.map_cons, List.map_nil]); first | done | rfl | (simp only [List.length_drop, List.length_take]; rfl)) ?_; (with_reducible refine (selfstablaw05_awake.calls k3  true _ A49.out).mono ?_); rintro e w59 ⟨rfl, hb⟩; refine ⟨_, rfl, ?_⟩; have n0_ := Aside0.mk (Kd.R_below (by (with_reducible repeat (first | apply Kd.R_alloc | apply Kd.R_drewN | apply Kd.R_drew)); exact HO_5.out) hb); have n1_ := Aside0.mk (Kd.R_below (by (with_reducible repeat (first | apply Kd.R_alloc | apply Kd.R_drewN | apply Kd.R_drew)); exact HO_8.out) hb); have n2_ := Aside0.mk (Kd.R_below (by (with_reducible repeat (first | apply Kd.R_alloc | apply Kd.R_drewN | apply Kd.R_drew)); exact HO_10.out) hb); have n3_ := Aside0.mk (below_step (by repeat (first | (with_reducible first | exact HB.out | apply below_alloc | apply pw_below_drewN | apply below_drew1) | exact HB.out)) hb); clear HO_5; clear HO_8; clear HO_10; clear HB; have HO_5 := n0_; have HO_8 := n1_; have HO_10 := n2_; have HB := n3_; clear n0_ n1_ n2_ n3_; (try clear hb); (try clear hb2); (try clear hk); (try clear hi)))
                              go_ret
                              exact ⟨by first | rfl | (simp [errW_none, errW_some] <;> rfl) | (simp [*, errW_none, errW_some] <;> rfl), by repeat (first | (with_reducible first | exact HB.out | apply below_alloc | apply pw_below_drewN | apply below_drew1) | exact HB.out)⟩
                          · rw [if_neg c51] at H
                            have c51b0 : (t361 == 0) = false := beq_eq_false_iff_ne.mpr c51
                            have c51b1 : (t361 != 0) = true := bne_iff_ne.mpr c51
                            obtain rfl := Option.some.inj H
                            go_wp2_with (first | ((with_reducible refine gate_callee (f := 11) rfl ?_); refine goesL_ (some 102) rfl rfl Try.func11 (by kernel_rfl) rfl #[] rfl (by (try simp only [List.map_toArray, List.map_cons, List.map_nil]); first | done | rfl | (simp only [List.length_drop, List.length_take]; rfl)) ?_; (with_reducible refine (selfstablaw05_awake.calls k3  true _ A49.out).mono ?_); rintro e w60 ⟨rfl, hb⟩; refine ⟨_, rfl, ?_⟩; have n0_ := Aside0.mk (Kd.R_below (by (with_reducible repeat (first | apply Kd.R_alloc | apply Kd.R_drewN | apply Kd.R_drew)); exact HO_5.out) hb); have n1_ := Aside0.mk (Kd.R_below (by (with_reducible repeat (first | apply Kd.R_alloc | apply Kd.R_drewN | apply Kd.R_drew)); exact HO_8.out) hb); have n2_ := Aside0.mk (Kd.R_below (by (with_reducible repeat (first | apply Kd.R_alloc | apply Kd.R_drewN | apply Kd.R_drew)); exact HO_10.out) hb); have n3_ := Aside0.mk (below_step (by repeat (first | (with_reducible first | exact HB.out | apply below_alloc | apply pw_below_drewN | apply below_drew1) | exact HB.out)) hb); clear HO_5; clear HO_8; clear HO_10; clear HB; have HO_5 := n0_; have HO_8 := n1_; have HO_10 := n2_; have HB := n3_; clear n0_ n1_ n2_ n3_; (try clear hb); (try clear hb2); (try clear hk); (try clear hi)))
                            go_ret
                            exact ⟨by first | rfl | (simp [errW_none, errW_some] <;> rfl) | (simp [*, errW_none, errW_some] <;> rfl), by repeat (first | (with_reducible first | exact HB.out | apply below_alloc | apply pw_below_drewN | apply below_drew1) | exact HB.out)⟩
                        · replace c50 := Bool.eq_false_iff.mpr c50
                          subst c50
                          have H1 : (some false) = some r := by rw [if_neg (show ¬ (false = true) by decide)] at H; exact H
                          clear H
                          have H := H1
                          clear H1
                          obtain rfl := Option.some.inj H
                          go_wp2_with (first | ((with_reducible refine gate_callee (f := 11) rfl ?_); refine goesL_ (some 102) rfl rfl Try.func11 (by kernel_rfl) rfl #[] rfl (by (try simp only [List.map_toArray, List.map_cons, List.map_nil]); first | done | rfl | (simp only [List.length_drop, List.length_take]; rfl)) ?_; (with_reducible refine (selfstablaw05_awake.calls k3  false _ A49.out).mono ?_); rintro e w61 ⟨rfl, hb⟩; refine ⟨_, rfl, ?_⟩; have n0_ := Aside0.mk (Kd.R_below (by (with_reducible repeat (first | apply Kd.R_alloc | apply Kd.R_drewN | apply Kd.R_drew)); exact HO_5.out) hb); have n1_ := Aside0.mk (Kd.R_below (by (with_reducible repeat (first | apply Kd.R_alloc | apply Kd.R_drewN | apply Kd.R_drew)); exact HO_8.out) hb); have n2_ := Aside0.mk (Kd.R_below (by (with_reducible repeat (first | apply Kd.R_alloc | apply Kd.R_drewN | apply Kd.R_drew)); exact HO_10.out) hb); have n3_ := Aside0.mk (below_step (by repeat (first | (with_reducible first | exact HB.out | apply below_alloc | apply pw_below_drewN | apply below_drew1) | exact HB.out)) hb); clear HO_5; clear HO_8; clear HO_10; clear HB; have HO_5 := n0_; have HO_8 := n1_; have HO_10 := n2_; have HB := n3_; clear n0_ n1_ n2_ n3_; (try clear hb); (try clear hb2); (try clear hk); (try clear hi)))
                          go_ret
                          exact ⟨by first | rfl | (simp [errW_none, errW_some] <;> rfl) | (simp [*, errW_none, errW_some] <;> rfl), by repeat (first | (with_reducible first | exact HB.out | apply below_alloc | apply pw_below_drewN | apply below_drew1) | exact HB.out)⟩
          · rw [if_neg c13] at H
            exact absurd H (by simp)
        · rw [if_neg c12] at H
          exact absurd H (by simp)

end Go.Proofs.Ytbjigmgiecgolaa.P
