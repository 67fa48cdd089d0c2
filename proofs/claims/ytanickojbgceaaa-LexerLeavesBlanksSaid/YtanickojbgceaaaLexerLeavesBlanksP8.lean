/- Part of the proof of the law LexerLeavesBlanks: P8. -/
import Derived.Test.YtanickojbgceaaaLexerLeavesBlanksP0
import Derived.Test.YtanickojbgceaaaLexerLeavesBlanksP1
import Derived.Test.YtanickojbgceaaaLexerLeavesBlanksP4
import Derived.Test.YtanickojbgceaaaLexerLeavesBlanksP7
namespace Go.Proofs.Ytanickojbgceaaa.P
open Go.RowKit Go.Proofs.YtanickojbgceaaaW.PrintWords Go.Proofs.YtanickojbgceaaaW.PrintLast Go.Proofs.YtanickojbgceaaaW.PrintMore
attribute [local go_sem] max2_int min2_int max_two min_two max_three min_three max_four min_four
set_option linter.unusedVariables false
set_option linter.unusedSimpArgs false
attribute [local go_sem high] eqA32
def selfstabref04_Scan.l0 : Nat → ByteArray → List (S32) → Int → Option ((List (S32)) × Int × Int)
 | 0, _, _, _ => none
 | k + 1, x0, x5, x6 => if x6 < (x0.size : Int) then (if (x5.length : Int) = 4096 then (some (([] : List (S32)), x6, 3)) else ((selfstabref04_token.f k x0 x6).bind fun bt152 => (if bt152.2.2.2.2 = 0 then (if x5.length < 4398046511104 then ((selfstabref04_blanks.f k x0 bt152.2.2.1).bind fun t161 => (selfstabref04_Scan.l0 k x0 (x5 ++ [(⟨bt152.1, bt152.2.1, bt152.2.2.1, bt152.2.2.2.1⟩ : S32)]) t161)) else (none)) else (some (([] : List (S32)), x6, bt152.2.2.2.2))))) else (some (x5, 0, 0))
def selfstabref04_Scan.f (k : Nat) (a0 : ByteArray) : Option ((List (S32)) × Int × Int) := if (a0.size : Int) > 16384 then (some (([] : List (S32)), 0, 3)) else ((selfstabref04_blanks.f k a0 0).bind fun t151 => (selfstabref04_Scan.l0 k a0 ([] : List (S32)) t151))
set_option maxHeartbeats 6000000 in
set_option maxRecDepth 100000 in
theorem selfstabref04_Scan.calls (k : Nat) (a0 : ByteArray) (r1 : List (S32)) (r2 : Int) (r3 : Int) (w : World) (h : selfstabref04_Scan.f k a0 = some (r1, r2, r3)) :
  Calls Try.prog 12 #[.string a0] w fun e w' => ∃ v0_ : Value, e = .returned (.tuple #[v0_, .int .i64 r2, .int .i64 r3]) ∧ Kd.R k32 32 w' w.heap.size (fun _ => True) v0_ r1 ∧ Below w.heap.size w w' := by
 have hu32 := Try.underlying32
 have HB := Aside0.mk (Below.refl w.heap.size w)
 have H : (if (a0.size : Int) > 16384 then (some (([] : List (S32)), 0, 3)) else ((selfstabref04_blanks.f k a0 0).bind fun t151 => (selfstabref04_Scan.l0 k a0 ([] : List (S32)) t151))) = some (r1, r2, r3) := h
 clear h;by_cases c2 : (a0.size : Int) > 16384
 ·rw [if_pos c2] at H
  have c2b0 : decide (16384 < (a0.size : Int)) = true := decide_eq_true c2
  have c2b1 : decide (16384 < a0.size) = true := decide_eq_true (by omega)
  clear c2;simp only [Option.some.injEq, Prod.mk.injEq] at H
  obtain ⟨rfl, rfl, rfl⟩ := H
  go_enter Try.func12, Try.ntmps12
  go_wp2
  go_ret3
  exact ⟨_, by first | rfl | (simp [errW_none, errW_some] <;> rfl) | (simp [*, errW_none, errW_some] <;> rfl), by first | exact Kd.R_nil _ _ _ _ _ | exact Kd.N_nil _ _ _ _ _ | exact Kd.V_nil _ _ _ _ _ | exact Kd.Q_nil _ _ _ _ _ | exact Kd.S_nil _ _ _ _ _, by repeat (first | (with_reducible first | exact HB.out | apply below_alloc | apply pw_below_drewN | apply below_drew1) | exact HB.out)⟩
 ·rw [if_neg c2] at H
  have c2b0 : decide (16384 < (a0.size : Int)) = false := decide_eq_false c2
  have c2b1 : decide (16384 < a0.size) = false := decide_eq_false (by omega)
  clear c2;replace H := Option.bind_eq_some_iff.mp H
  obtain ⟨t151, A30, H⟩ := H
  replace H : (selfstabref04_Scan.l0 k a0 ([] : List (S32)) t151) = some (r1, r2, r3) := H
  have A3 := Aside0.mk A30
  clear A30;have H' := Aside0.mk H
  clear H;go_enter Try.func12, Try.ntmps12
  go_wp2_with (first | ((with_reducible refine gate_callee (f := 23) rfl ?_); refine goesL_ (some 13) rfl rfl Try.func23 (by kernel_rfl) rfl #[.string a0, .int .i64 0] rfl (by (try simp only [List.map_toArray, List.map_cons, List.map_nil]); first | done | rfl | (simp only [List.length_drop, List.length_take]; rfl)) ?_; (with_reducible refine (selfstabref04_blanks.calls k a0 0 t151 _ A3.out).mono ?_); rintro e w' ⟨rfl, ⟨nd, rfl⟩⟩; refine ⟨_, rfl, ?_⟩))
  go_loopg [5, 6] k (fun kq v5 v6 w' => ∃ (x5_1 : List (S32)) (x6_1 : Int), v6 = .int .i64 x6_1 ∧ Aside0 (selfstabref04_Scan.l0 kq a0 x5_1 x6_1 = some (r1, r2, r3)) ∧ Aside0 (kq ≤ k) ∧ Aside0 (Kd.R k32 32 w' w.heap.size (fun _ => True) v5 x5_1) ∧ Aside0 (Below w.heap.size w w'))
  case atStart => exact ⟨(([] : List (S32))), (t151), (by first | rfl | (simp; done) | (simp [*]; done)), H', ⟨Nat.le_refl _⟩, ⟨by first | exact Kd.R_nil _ _ _ _ _ | exact Kd.N_nil _ _ _ _ _ | exact Kd.V_nil _ _ _ _ _ | exact Kd.Q_nil _ _ _ _ _ | exact Kd.S_nil _ _ _ _ _⟩, ⟨by repeat (first | (with_reducible first | exact HB.out | apply below_alloc | apply pw_below_drewN | apply below_drew1) | exact HB.out)⟩⟩
  case round =>
   clear H';try clear c2
   try clear c2b0
   try clear c2b1
   obtain ⟨x5_1, x6_1, rfl, HA, HK1, HO_5, HB⟩ := hrel
   cases gk with
   | zero => exact absurd HA.out (by simp [selfstabref04_Scan.l0])
   | succ k1 =>
    have H := HA.out
    clear HA;simp only [selfstabref04_Scan.l0] at H
    by_cases c4 : x6_1 < (a0.size : Int)
    ·rw [if_pos c4] at H
     have c4b0 : decide (x6_1 < (a0.size : Int)) = true := decide_eq_true c4
     clear c4;by_cases c5 : (x5_1.length : Int) = 4096
     ·rw [if_pos c5] at H
      have c5b0 : ((x5_1.length : Int) == 4096) = true := beq_iff_eq.mpr c5
      have c5b1 : ((x5_1.length : Int) != 4096) = false := bne_eq_false_iff_eq.mpr c5
      clear c5;simp only [Option.some.injEq, Prod.mk.injEq] at H
      obtain ⟨rfl, rfl, rfl⟩ := H
      obtain ⟨Ao6, co6, eo6⟩ := Kd.R_slice HO_5.out
      subst eo6;go_wp2
      go_ret3
      exact ⟨_, by first | rfl | (simp [errW_none, errW_some] <;> rfl) | (simp [*, errW_none, errW_some] <;> rfl), by first | exact Kd.R_nil _ _ _ _ _ | exact Kd.N_nil _ _ _ _ _ | exact Kd.V_nil _ _ _ _ _ | exact Kd.Q_nil _ _ _ _ _ | exact Kd.S_nil _ _ _ _ _, by repeat (first | (with_reducible first | exact HB.out | apply below_alloc | apply pw_below_drewN | apply below_drew1) | exact HB.out)⟩
     ·rw [if_neg c5] at H
      have c5b0 : ((x5_1.length : Int) == 4096) = false := beq_eq_false_iff_ne.mpr c5
      have c5b1 : ((x5_1.length : Int) != 4096) = true := bne_iff_ne.mpr c5
      replace H := Option.bind_eq_some_iff.mp H
      obtain ⟨⟨t152, t153, t154, t155, t156⟩, A70, H⟩ := H
      replace H : (if t156 = 0 then (if x5_1.length < 4398046511104 then ((selfstabref04_blanks.f k1 a0 t154).bind fun t161 => (selfstabref04_Scan.l0 k1 a0 (x5_1 ++ [(⟨t152, t153, t154, t155⟩ : S32)]) t161)) else (none)) else (some (([] : List (S32)), x6_1, t156))) = some (r1, r2, r3) := H
      have A7 := Aside0.mk A70
      clear A70;by_cases c8 : t156 = 0
      ·rw [if_pos c8] at H
       have c8b0 : (t156 == 0) = true := beq_iff_eq.mpr c8
       have c8b1 : (t156 != 0) = false := bne_eq_false_iff_eq.mpr c8
       clear c8;by_cases c9 : x5_1.length < 4398046511104
       ·rw [if_pos c9] at H
        have LMc9 := Aside0.mk c9
        clear c9;obtain ⟨y158, hy158⟩ : ∃ y_ : List (S32), y_ = (x5_1 ++ [(⟨t152, t153, t154, t155⟩ : S32)]) := ⟨_, rfl⟩
        replace H : ((selfstabref04_blanks.f k1 a0 t154).bind fun t161 => (selfstabref04_Scan.l0 k1 a0 y158 t161)) = some (r1, r2, r3) := by first | (rw [hy158]; with_reducible exact H) | (have H2_ := (Option.bind_some _ _).symm.trans H; rw [hy158]; with_reducible exact H2_) | (have H2_ := (Option.bind_some _ _).symm.trans H; with_reducible exact H2_) | with_reducible exact H | (rw [hy158]; exact H) | exact H
        have Ny158 := Aside0.mk hy158
        clear hy158;replace H := Option.bind_eq_some_iff.mp H
        obtain ⟨t161, A100, H⟩ := H
        replace H : (selfstabref04_Scan.l0 k1 a0 y158 t161) = some (r1, r2, r3) := H
        have A10 := Aside0.mk A100
        clear A100;have H' := Aside0.mk H
        clear H;obtain ⟨Ao11, co11, eo11⟩ := Kd.R_slice HO_5.out
        subst eo11
        go_wp2_with (first | ((with_reducible refine gate_callee (f := 24) rfl ?_); refine goesL_ (some 28) rfl rfl Try.func24 (by kernel_rfl) rfl #[.string a0, .int .i64 x6_1] rfl (by (try simp only [List.map_toArray, List.map_cons, List.map_nil]); first | done | rfl | (simp only [List.length_drop, List.length_take]; rfl)) ?_; (with_reducible refine (selfstabref04_token.calls k1 a0 x6_1 t152 t153 t154 t155 t156 _ A7.out).mono ?_); rintro e w12 ⟨rfl, hb⟩; refine ⟨_, rfl, ?_⟩; have n0_ := Aside0.mk (Kd.R_below (by (with_reducible repeat (first | apply Kd.R_alloc | apply Kd.R_drewN | apply Kd.R_drew)); exact HO_5.out) hb); have n1_ := Aside0.mk (below_step (by repeat (first | (with_reducible first | exact HB.out | apply below_alloc | apply pw_below_drewN | apply below_drew1) | exact HB.out)) hb); clear HO_5; clear HB; have HO_5 := n0_; have HB := n1_; clear n0_ n1_; (try clear hb); (try clear hb2); (try clear hk); (try clear hi)) | ((with_reducible refine gate_dst (N := 7) rfl ?_); refine box_event ?hg (N := 7) ?hd (cs := #[.int .i64 0, .int .i64 0, .int .i64 0, .int .i64 0]) (t := 32) ?hr ?_; (case hd => rfl); (case hg => rfl); (case hr => first | (go_simp; done) | (go_simp; rfl)); intro gb157 hg w13 hbox hb; have n0_ := Aside0.mk (Kd.R_below (Kd.R_elderB (by (with_reducible repeat (first | apply Kd.R_alloc | apply Kd.R_drewN | apply Kd.R_drew)); exact HO_5.out) gb157 (Nat.le_of_eq hg.symm)) hb); have n1_ := Aside0.mk (below_step (by repeat (first | (with_reducible first | exact HB.out | apply below_alloc | apply pw_below_drewN | apply below_drew1) | exact HB.out)) hb); have n2_ := Aside0.mk (hbox); have n3_ := Aside0.mk ((by rw [hg]; exact (below_size (by repeat (first | (with_reducible first | exact HB.out | apply below_alloc | apply pw_below_drewN | apply below_drew1) | exact HB.out))) : w.heap.size ≤ gb157)); have n4_ := Aside0.mk ((by rw [hg]; exact (below_size (by repeat (first | (with_reducible first | exact HB.out | apply below_alloc | apply pw_below_drewN | apply below_drew1) | exact HB.out))) : w.heap.size ≤ gb157)); clear HO_5; clear HB; have HO_5 := n0_; have HB := n1_; have BK157 := n2_; have GW157 := n3_; have GE157 := n4_; clear n0_ n1_ n2_ n3_ n4_; clear hb hbox hg; have hcz14_0 : w13.cell? ⟨gb157, 0, none⟩ = some (.int .i64 0) := (blk_cell BK157.out 0).trans rfl; have hcz14_1 : w13.cell? ⟨gb157, 1, none⟩ = some (.int .i64 0) := (blk_cell BK157.out 1).trans rfl; have hcz14_2 : w13.cell? ⟨gb157, 2, none⟩ = some (.int .i64 0) := (blk_cell BK157.out 2).trans rfl; have hcz14_3 : w13.cell? ⟨gb157, 3, none⟩ = some (.int .i64 0) := (blk_cell BK157.out 3).trans rfl; have hfz14_0 := blk_frozen BK157.out 0; have hfz14_1 := blk_frozen BK157.out 1; have hfz14_2 := blk_frozen BK157.out 2; have hfz14_3 := blk_frozen BK157.out 3) | ((with_reducible refine gate_builtin (b := .append) (xs := #[.tmp 35, .tmp 37]) rfl ?_); at_builtin; refine Kd.R_append k32 (w0 := w) w.heap.size rfl (.tmp 35) (.tmp 37) 23 32 (.agg #[(.int .i64 0), (.int .i64 0), (.int .i64 0), (.int .i64 0)]) 32 rfl Try.underlying23 info32 rfl (by decide) (by omega) (.slice Ao11 x5_1.length co11) x5_1 (⟨t152, t153, t154, t155⟩ : S32) [.int .i64 t152, .int .i64 t153, .int .i64 t154, .int .i64 t155] (fun k_ => k_ ≠ gb157) (fun _ => False) rfl (by first | (go_simp; done) | (go_simp; rfl)) ?aP (fun _ hk => hk.elim) ?aF ?aO ?aB ?aS ?aL ?_; (case aP => exact k32_mkM _ _ _ (⟨t152, t153, t154, t155⟩ : S32)); (case aB => exact (by repeat (first | (with_reducible first | exact HB.out | apply below_alloc | apply pw_below_drewN | apply below_drew1 | refine below_set ?_ GE157.out) | exact HB.out))); (case aF => exact (fun k_ hk => Kd.freshB (g := gb157) (o := .cells #[.int .i64 t152, .int .i64 t153, .int .i64 t154, .int .i64 t155] 32 (0, 0)) (by (with_reducible repeat (first | refine blk_drewN ?_ _ | refine blk_drew ?_ | refine blk_alloc ?_ _)); refine blk_put (cs := #[.int .i64 t152, .int .i64 t153, .int .i64 t154, .int .i64 0]) ?_ 3 _ rfl; (with_reducible repeat (first | refine blk_drewN ?_ _ | refine blk_drew ?_ | refine blk_alloc ?_ _)); refine blk_put (cs := #[.int .i64 t152, .int .i64 t153, .int .i64 0, .int .i64 0]) ?_ 2 _ rfl; (with_reducible repeat (first | refine blk_drewN ?_ _ | refine blk_drew ?_ | refine blk_alloc ?_ _)); refine blk_put (cs := #[.int .i64 t152, .int .i64 0, .int .i64 0, .int .i64 0]) ?_ 1 _ rfl; (with_reducible repeat (first | refine blk_drewN ?_ _ | refine blk_drew ?_ | refine blk_alloc ?_ _)); refine blk_put (cs := #[.int .i64 0, .int .i64 0, .int .i64 0, .int .i64 0]) ?_ 0 _ rfl; (with_reducible repeat (first | refine blk_drewN ?_ _ | refine blk_drew ?_ | refine blk_alloc ?_ _)); exact BK157.out) k_ hk)); (case aO => exact (by (with_reducible repeat (first | apply Kd.R_alloc | apply Kd.R_drewN | apply Kd.R_drew)); exact Kd.R_mono (Kd.R_far (p := ⟨gb157, 3, none⟩) (Kd.R_far (p := ⟨gb157, 2, none⟩) (Kd.R_far (p := ⟨gb157, 1, none⟩) (Kd.R_far (p := ⟨gb157, 0, none⟩) (Kd.R_mono HO_5.out (fun k_ hk => (⟨hk, hk.2⟩ : _ ∧ k_ ≠ gb157))) (fun _ hk => hk.2) (.int .i64 t152)) (fun _ hk => hk.2) (.int .i64 t153)) (fun _ hk => hk.2) (.int .i64 t154)) (fun _ hk => hk.2) (.int .i64 t155)) (fun _ hk => hk.1.2))); (case aS => exact (below_size (by repeat (first | (with_reducible first | exact HB.out | apply below_alloc | apply pw_below_drewN | apply below_drew1 | refine below_set ?_ GE157.out) | exact HB.out)))); (case aL => have := LMc9.out; omega); intro v159 w15 ho hb hg hat; rw [← Ny158.out] at ho; have n0_ := Aside0.mk (blk_grown (g := gb157) (o := .cells #[.int .i64 t152, .int .i64 t153, .int .i64 t154, .int .i64 t155] 32 (0, 0)) (by (with_reducible repeat (first | refine blk_drewN ?_ _ | refine blk_drew ?_ | refine blk_alloc ?_ _)); refine blk_put (cs := #[.int .i64 t152, .int .i64 t153, .int .i64 t154, .int .i64 0]) ?_ 3 _ rfl; (with_reducible repeat (first | refine blk_drewN ?_ _ | refine blk_drew ?_ | refine blk_alloc ?_ _)); refine blk_put (cs := #[.int .i64 t152, .int .i64 t153, .int .i64 0, .int .i64 0]) ?_ 2 _ rfl; (with_reducible repeat (first | refine blk_drewN ?_ _ | refine blk_drew ?_ | refine blk_alloc ?_ _)); refine blk_put (cs := #[.int .i64 t152, .int .i64 0, .int .i64 0, .int .i64 0]) ?_ 1 _ rfl; (with_reducible repeat (first | refine blk_drewN ?_ _ | refine blk_drew ?_ | refine blk_alloc ?_ _)); refine blk_put (cs := #[.int .i64 0, .int .i64 0, .int .i64 0, .int .i64 0]) ?_ 0 _ rfl; (with_reducible repeat (first | refine blk_drewN ?_ _ | refine blk_drew ?_ | refine blk_alloc ?_ _)); exact BK157.out) hg (Kd.R_away HO_5.out (fun _ hk => hk.2))); have n1_ := Aside0.mk (hb); have n2_ := Aside0.mk (ho); clear BK157; clear HB; clear HO_5; have BK157 := n0_; have HB := n1_; have HO160 := n2_; clear n0_ n1_ n2_; clear ho hb hg hat; have hcz16_0 : w15.cell? ⟨gb157, 0, none⟩ = some (.int .i64 t152) := (blk_cell BK157.out 0).trans rfl; have hcz16_1 : w15.cell? ⟨gb157, 1, none⟩ = some (.int .i64 t153) := (blk_cell BK157.out 1).trans rfl; have hcz16_2 : w15.cell? ⟨gb157, 2, none⟩ = some (.int .i64 t154) := (blk_cell BK157.out 2).trans rfl; have hcz16_3 : w15.cell? ⟨gb157, 3, none⟩ = some (.int .i64 t155) := (blk_cell BK157.out 3).trans rfl; have hfz16_0 := blk_frozen BK157.out 0; have hfz16_1 := blk_frozen BK157.out 1; have hfz16_2 := blk_frozen BK157.out 2; have hfz16_3 := blk_frozen BK157.out 3) | ((with_reducible refine gate_callee (f := 23) rfl ?_); refine goesL_ (some 20) rfl rfl Try.func23 (by kernel_rfl) rfl #[.string a0, .int .i64 t154] rfl (by (try simp only [List.map_toArray, List.map_cons, List.map_nil]); first | done | rfl | (simp only [List.length_drop, List.length_take]; rfl)) ?_; (with_reducible refine (selfstabref04_blanks.calls k1 a0 t154 t161 _ A10.out).mono ?_); rintro e w' ⟨rfl, ⟨nd, rfl⟩⟩; refine ⟨_, rfl, ?_⟩))
        go_roundg k1
        case measure => have := HK1.out; omega
        case rel => exact ⟨(y158), (t161), (by first | rfl | (simp; done) | (simp [*]; done)), H', ⟨by have := HK1.out; omega⟩, ⟨by (with_reducible repeat (first | apply Kd.R_alloc | apply Kd.R_drewN | apply Kd.R_drew)); exact Kd.R_mono HO160.out (fun _ hk => trivial)⟩, ⟨by repeat (first | (with_reducible first | exact HB.out | apply below_alloc | apply pw_below_drewN | apply below_drew1 | refine below_set ?_ GE157.out) | exact HB.out)⟩⟩
       ·rw [if_neg c9] at H
        exact absurd H (by simp)
      ·rw [if_neg c8] at H
       have c8b0 : (t156 == 0) = false := beq_eq_false_iff_ne.mpr c8
       have c8b1 : (t156 != 0) = true := bne_iff_ne.mpr c8
       simp only [Option.some.injEq, Prod.mk.injEq] at H
       obtain ⟨rfl, rfl, rfl⟩ := H
       obtain ⟨Ao17, co17, eo17⟩ := Kd.R_slice HO_5.out
       subst eo17
       go_wp2_with (first | ((with_reducible refine gate_callee (f := 24) rfl ?_); refine goesL_ (some 28) rfl rfl Try.func24 (by kernel_rfl) rfl #[.string a0, .int .i64 x6_1] rfl (by (try simp only [List.map_toArray, List.map_cons, List.map_nil]); first | done | rfl | (simp only [List.length_drop, List.length_take]; rfl)) ?_; (with_reducible refine (selfstabref04_token.calls k1 a0 x6_1 t152 t153 t154 t155 t156 _ A7.out).mono ?_); rintro e w18 ⟨rfl, hb⟩; refine ⟨_, rfl, ?_⟩; have n0_ := Aside0.mk (Kd.R_below (by (with_reducible repeat (first | apply Kd.R_alloc | apply Kd.R_drewN | apply Kd.R_drew)); exact HO_5.out) hb); have n1_ := Aside0.mk (below_step (by repeat (first | (with_reducible first | exact HB.out | apply below_alloc | apply pw_below_drewN | apply below_drew1) | exact HB.out)) hb); clear HO_5; clear HB; have HO_5 := n0_; have HB := n1_; clear n0_ n1_; (try clear hb); (try clear hb2); (try clear hk); (try clear hi)) | ((with_reducible refine gate_dst (N := 7) rfl ?_); refine box_event ?hg (N := 7) ?hd (cs := #[.int .i64 0, .int .i64 0, .int .i64 0, .int .i64 0]) (t := 32) ?hr ?_; (case hd => rfl); (case hg => rfl); (case hr => first | (go_simp; done) | (go_simp; rfl)); intro gb157 hg w19 hbox hb; have n0_ := Aside0.mk (Kd.R_below (Kd.R_elderB (by (with_reducible repeat (first | apply Kd.R_alloc | apply Kd.R_drewN | apply Kd.R_drew)); exact HO_5.out) gb157 (Nat.le_of_eq hg.symm)) hb); have n1_ := Aside0.mk (below_step (by repeat (first | (with_reducible first | exact HB.out | apply below_alloc | apply pw_below_drewN | apply below_drew1) | exact HB.out)) hb); have n2_ := Aside0.mk (hbox); have n3_ := Aside0.mk ((by rw [hg]; exact (below_size (by repeat (first | (with_reducible first | exact HB.out | apply below_alloc | apply pw_below_drewN | apply below_drew1) | exact HB.out))) : w.heap.size ≤ gb157)); have n4_ := Aside0.mk ((by rw [hg]; exact (below_size (by repeat (first | (with_reducible first | exact HB.out | apply below_alloc | apply pw_below_drewN | apply below_drew1) | exact HB.out))) : w.heap.size ≤ gb157)); clear HO_5; clear HB; have HO_5 := n0_; have HB := n1_; have BK157 := n2_; have GW157 := n3_; have GE157 := n4_; clear n0_ n1_ n2_ n3_ n4_; clear hb hbox hg; have hcz20_0 : w19.cell? ⟨gb157, 0, none⟩ = some (.int .i64 0) := (blk_cell BK157.out 0).trans rfl; have hcz20_1 : w19.cell? ⟨gb157, 1, none⟩ = some (.int .i64 0) := (blk_cell BK157.out 1).trans rfl; have hcz20_2 : w19.cell? ⟨gb157, 2, none⟩ = some (.int .i64 0) := (blk_cell BK157.out 2).trans rfl; have hcz20_3 : w19.cell? ⟨gb157, 3, none⟩ = some (.int .i64 0) := (blk_cell BK157.out 3).trans rfl; have hfz20_0 := blk_frozen BK157.out 0; have hfz20_1 := blk_frozen BK157.out 1; have hfz20_2 := blk_frozen BK157.out 2; have hfz20_3 := blk_frozen BK157.out 3))
       go_ret3
       exact ⟨_, by first | rfl | (simp [errW_none, errW_some] <;> rfl) | (simp [*, errW_none, errW_some] <;> rfl), by first | exact Kd.R_nil _ _ _ _ _ | exact Kd.N_nil _ _ _ _ _ | exact Kd.V_nil _ _ _ _ _ | exact Kd.Q_nil _ _ _ _ _ | exact Kd.S_nil _ _ _ _ _, by repeat (first | (with_reducible first | exact HB.out | apply below_alloc | apply pw_below_drewN | apply below_drew1 | refine below_set ?_ GE157.out) | exact HB.out)⟩
    ·rw [if_neg c4] at H
     have c4b0 : decide (x6_1 < (a0.size : Int)) = false := decide_eq_false c4
     clear c4;simp only [Option.some.injEq, Prod.mk.injEq] at H
     obtain ⟨rfl, rfl, rfl⟩ := H
     go_wp2
     go_ret3
     exact ⟨_, by first | rfl | (simp [errW_none, errW_some] <;> rfl) | (simp [*, errW_none, errW_some] <;> rfl), by (with_reducible repeat (first | apply Kd.R_alloc | apply Kd.R_drewN | apply Kd.R_drew)); exact HO_5.out, by repeat (first | (with_reducible first | exact HB.out | apply below_alloc | apply pw_below_drewN | apply below_drew1) | exact HB.out)⟩
def selfstablaw04_fair.f (k : Nat) (a0 : ByteArray) : Option (Bool) := (selfstabref04_Scan.f k a0).bind fun bt190 => (if (a0.size : Int) ≤ 2000 then (some (bt190.2.2 == 0)) else (some false))
set_option maxHeartbeats 6000000 in
set_option maxRecDepth 100000 in
theorem selfstablaw04_fair.calls (k : Nat) (a0 : ByteArray) (r : Bool) (w : World) (h : selfstablaw04_fair.f k a0 = some r) :
  Calls Try.prog 14 #[.string a0] w fun e w' => e = .returned (.bool r) ∧ Below w.heap.size w w' := by
 have HB := Aside0.mk (Below.refl w.heap.size w)
 have H : ((selfstabref04_Scan.f k a0).bind fun bt190 => (if (a0.size : Int) ≤ 2000 then (some (bt190.2.2 == 0)) else (some false))) = some r := h
 clear h;replace H := Option.bind_eq_some_iff.mp H
 obtain ⟨⟨t190, t191, t192⟩, A20, H⟩ := H
 replace H : (if (a0.size : Int) ≤ 2000 then (some (t192 == 0)) else (some false)) = some r := H
 have A2 := Aside0.mk A20
 clear A20;by_cases c3 : (a0.size : Int) ≤ 2000
 ·rw [if_pos c3] at H
  have c3b0 : decide ((a0.size : Int) ≤ 2000) = true := decide_eq_true c3
  have c3b1 : decide (a0.size ≤ 2000) = true := decide_eq_true (by omega)
  clear c3;obtain rfl := Option.some.inj H
  go_enter Try.func14, Try.ntmps14
  go_wp2_with (first | ((with_reducible refine gate_callee (f := 12) rfl ?_); refine goesL_ (some 8) rfl rfl Try.func12 (by kernel_rfl) rfl #[.string a0] rfl (by (try simp only [List.map_toArray, List.map_cons, List.map_nil]); first | done | rfl | (simp only [List.length_drop, List.length_take]; rfl)) ?_; (with_reducible refine (selfstabref04_Scan.calls k a0 t190 t191 t192 _ A2.out).mono ?_); rintro e w4 ⟨v193, rfl, ho0, hb⟩; refine ⟨_, rfl, ?_⟩; have n0_ := Aside0.mk (Kd.R_lower ho0 (below_size (by repeat (first | (with_reducible first | exact HB.out | apply below_alloc | apply pw_below_drewN | apply below_drew1) | exact HB.out)))); have n1_ := Aside0.mk (below_step (by repeat (first | (with_reducible first | exact HB.out | apply below_alloc | apply pw_below_drewN | apply below_drew1) | exact HB.out)) hb); clear HB; have HO194 := n0_; have HB := n1_; clear n0_ n1_; (try clear hb); (try clear hb2); (try clear hk); (try clear hi); (try clear ho0)))
  go_ret
  exact ⟨by first | rfl | (simp [errW_none, errW_some] <;> rfl) | (simp [*, errW_none, errW_some] <;> rfl), by repeat (first | (with_reducible first | exact HB.out | apply below_alloc | apply pw_below_drewN | apply below_drew1) | exact HB.out)⟩
 ·rw [if_neg c3] at H
  have c3b0 : decide ((a0.size : Int) ≤ 2000) = false := decide_eq_false c3
  have c3b1 : decide (a0.size ≤ 2000) = false := decide_eq_false (by omega)
  clear c3;obtain rfl := Option.some.inj H
  go_enter Try.func14, Try.ntmps14
  go_wp2_with (first | ((with_reducible refine gate_callee (f := 12) rfl ?_); refine goesL_ (some 8) rfl rfl Try.func12 (by kernel_rfl) rfl #[.string a0] rfl (by (try simp only [List.map_toArray, List.map_cons, List.map_nil]); first | done | rfl | (simp only [List.length_drop, List.length_take]; rfl)) ?_; (with_reducible refine (selfstabref04_Scan.calls k a0 t190 t191 t192 _ A2.out).mono ?_); rintro e w5 ⟨v193, rfl, ho0, hb⟩; refine ⟨_, rfl, ?_⟩; have n0_ := Aside0.mk (Kd.R_lower ho0 (below_size (by repeat (first | (with_reducible first | exact HB.out | apply below_alloc | apply pw_below_drewN | apply below_drew1) | exact HB.out)))); have n1_ := Aside0.mk (below_step (by repeat (first | (with_reducible first | exact HB.out | apply below_alloc | apply pw_below_drewN | apply below_drew1) | exact HB.out)) hb); clear HB; have HO194 := n0_; have HB := n1_; clear n0_ n1_; (try clear hb); (try clear hb2); (try clear hk); (try clear hi); (try clear ho0)))
  go_ret
  exact ⟨by first | rfl | (simp [errW_none, errW_some] <;> rfl) | (simp [*, errW_none, errW_some] <;> rfl), by repeat (first | (with_reducible first | exact HB.out | apply below_alloc | apply pw_below_drewN | apply below_drew1) | exact HB.out)⟩
end Go.Proofs.Ytanickojbgceaaa.P
