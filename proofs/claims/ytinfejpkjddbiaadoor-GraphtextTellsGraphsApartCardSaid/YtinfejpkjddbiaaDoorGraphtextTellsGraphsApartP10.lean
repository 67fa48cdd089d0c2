/- Part of the proof of the law GraphtextTellsGraphsApart: P10. -/
import Derived.Test.YtinfejpkjddbiaaDoorGraphtextTellsGraphsApartP0
import Derived.Test.YtinfejpkjddbiaaDoorGraphtextTellsGraphsApartP1
namespace Go.Proofs.YtinfejpkjddbiaaDoor.P
open Go.RowKit Go.Proofs.YtinfejpkjddbiaaDoorW.PrintWords Go.Proofs.YtinfejpkjddbiaaDoorW.PrintLast Go.Proofs.YtinfejpkjddbiaaDoorW.PrintMore
attribute [local go_sem] max2_int min2_int max_two min_two max_three min_three max_four min_four
set_option linter.unusedVariables false
set_option linter.unusedSimpArgs false
attribute [local go_sem high] eqA41
mutual
def selfstabref01_Same.j0 : Nat → Bool → List Int → List (List (S41)) → List Int → List (List (S41)) → Option (Bool)
 | 0, _, _, _, _, _ => none
 | k + 1, x23, x218000, x218001, x219000, x219001 => if x23 = true then (some false) else (selfstabref01_Same.l0 k 0 x218000 x218001 x219000 x219001)
def selfstabref01_Same.l0 : Nat → Int → List Int → List (List (S41)) → List Int → List (List (S41)) → Option (Bool)
 | 0, _, _, _, _, _ => none
 | k + 1, x5, x218000, x218001, x219000, x219001 => if x5 < (x218000.length : Int) then (if 0 ≤ x5 then (if x5 < (x219000.length : Int) then (if (rd x218000 x5) = (rd x219000 x5) then (selfstabref01_Same.l0 k (wrap64 (x5 + 1)) x218000 x218001 x219000 x219001) else (some false)) else (none)) else (none)) else (selfstabref01_Same.l1 k 0 x218000 x218001 x219000 x219001)
def selfstabref01_Same.l1 : Nat → Int → List Int → List (List (S41)) → List Int → List (List (S41)) → Option (Bool)
 | 0, _, _, _, _, _ => none
 | k + 1, x6, x218000, x218001, x219000, x219001 => if x6 < (x218001.length : Int) then (if 0 ≤ x6 then (if x6 < (x219001.length : Int) then (if ((rd_L3 x218001 x6).length : Int) = ((rd_L3 x219001 x6).length : Int) then (selfstabref01_Same.l2 k x6 0 x218000 x218001 x219000 x219001) else (some false)) else (none)) else (none)) else (some true)
def selfstabref01_Same.l2 : Nat → Int → Int → List Int → List (List (S41)) → List Int → List (List (S41)) → Option (Bool)
 | 0, _, _, _, _, _, _ => none
 | k + 1, x6, x7, x218000, x218001, x219000, x219001 => if 0 ≤ x6 then (if x6 < (x218001.length : Int) then (if x7 < ((rd_L3 x218001 x6).length : Int) then (if 0 ≤ x7 then (if x6 < (x219001.length : Int) then (if x7 < ((rd_L3 x219001 x6).length : Int) then (if (!(((rd_T41 (rd_L3 x218001 x6) x7).f0) == ((rd_T41 (rd_L3 x219001 x6) x7).f0)) || (!(((rd_T41 (rd_L3 x218001 x6) x7).f1) == ((rd_T41 (rd_L3 x219001 x6) x7).f1)))) = true then (some false) else (selfstabref01_Same.l2 k x6 (wrap64 (x7 + 1)) x218000 x218001 x219000 x219001)) else (none)) else (none)) else (none)) else (selfstabref01_Same.l1 k (wrap64 (x6 + 1)) x218000 x218001 x219000 x219001)) else (none)) else (none)
end
def selfstabref01_Same.f (k : Nat) (l0_0 : List Int) (l0_1 : List (List (S41))) (l1_0 : List Int) (l1_1 : List (List (S41))) : Option (Bool) := if (l0_0.length : Int) = (l1_0.length : Int) then (selfstabref01_Same.j0 k ((l0_1.length : Int) != (l1_1.length : Int)) l0_0 l0_1 l1_0 l1_1) else (selfstabref01_Same.j0 k true l0_0 l0_1 l1_0 l1_1)
set_option maxHeartbeats 6000000 in
set_option maxRecDepth 100000 in
theorem selfstabref01_Same.calls (k : Nat) (A0_0 : Option Addr) (c0_0 : Nat) (l0_0 : List Int) (A0_1 : Option Addr) (c0_1 : Nat) (l0_1 : List (List (S41))) (A1_0 : Option Addr) (c1_0 : Nat) (l1_0 : List Int) (A1_1 : Option Addr) (c1_1 : Nat) (l1_1 : List (List (S41))) (r : Bool) (w : World) (hr0_0 : Kd.C (Kd.int .i64) w A0_0 l0_0.length l0_0) (hc0_0 : l0_0.length ≤ c0_0) (hr0_1 : Kd.C (Kd.slice 41 k41) w A0_1 l0_1.length l0_1) (hc0_1 : l0_1.length ≤ c0_1) (hr1_0 : Kd.C (Kd.int .i64) w A1_0 l1_0.length l1_0) (hc1_0 : l1_0.length ≤ c1_0) (hr1_1 : Kd.C (Kd.slice 41 k41) w A1_1 l1_1.length l1_1) (hc1_1 : l1_1.length ≤ c1_1) (h : selfstabref01_Same.f k l0_0 l0_1 l1_0 l1_1 = some r) :
  Calls Tryd.prog 12 #[.agg #[.slice A0_0 l0_0.length c0_0, .slice A0_1 l0_1.length c0_1], .agg #[.slice A1_0 l1_0.length c1_0, .slice A1_1 l1_1.length c1_1]] w fun e w' => e = .returned (.bool r) ∧ Below w.heap.size w w' := by
 have hu26 := Tryd.underlying26
 have hu41 := Tryd.underlying41
 have HR0_0 := Aside0.mk hr0_0
 have HC0_0 := Aside0.mk hc0_0
 clear hr0_0 hc0_0;have HR0_1 := Aside0.mk hr0_1
 have HC0_1 := Aside0.mk hc0_1
 clear hr0_1 hc0_1;have HR1_0 := Aside0.mk hr1_0
 have HC1_0 := Aside0.mk hc1_0
 clear hr1_0 hc1_0;have HR1_1 := Aside0.mk hr1_1
 have HC1_1 := Aside0.mk hc1_1
 clear hr1_1 hc1_1;have HB := Aside0.mk (Below.refl w.heap.size w)
 have H : (if (l0_0.length : Int) = (l1_0.length : Int) then (selfstabref01_Same.j0 k ((l0_1.length : Int) != (l1_1.length : Int)) l0_0 l0_1 l1_0 l1_1) else (selfstabref01_Same.j0 k true l0_0 l0_1 l1_0 l1_1)) = some r := h
 clear h;have HC3 := Aside0.mk H
 clear H;go_enter Tryd.func12, Tryd.ntmps12
 go_upto_region 1 with (first | ((with_reducible refine gate_dst (N := 2) rfl ?_); (try (refine gate_guard (by rfl) ?_; dsimp only)); refine box_event ?hg (N := 2) ?hd (cs := #[.slice A0_0 l0_0.length c0_0, .slice A0_1 l0_1.length c0_1]) (t := 26) ?hr ?_; (case hd => rfl); (case hg => rfl); (case hr => first | (go_simp; done) | (go_simp; rfl)); intro gb217 hg w4 hbox hb; have n0_ := Aside0.mk (below_step (by repeat (first | (with_reducible first | exact HB.out | apply below_alloc | apply pw_below_drewN | apply below_drew1) | exact HB.out)) hb); have n1_ := Aside0.mk (hbox); have n2_ := Aside0.mk ((by rw [hg]; exact (below_size (by repeat (first | (with_reducible first | exact HB.out | apply below_alloc | apply pw_below_drewN | apply below_drew1) | exact HB.out))) : w.heap.size ≤ gb217)); have n3_ := Aside0.mk ((by rw [hg]; exact (below_size (by repeat (first | (with_reducible first | exact HB.out | apply below_alloc | apply pw_below_drewN | apply below_drew1) | exact HB.out))) : w.heap.size ≤ gb217)); clear HB; have HB := n0_; have BK217 := n1_; have GW217 := n2_; have GE217 := n3_; clear n0_ n1_ n2_ n3_; clear hb hbox hg) | ((with_reducible refine gate_dst (N := 3) rfl ?_); (try (refine gate_guard (by rfl) ?_; dsimp only)); refine box_event ?hg (N := 3) ?hd (cs := #[.slice A1_0 l1_0.length c1_0, .slice A1_1 l1_1.length c1_1]) (t := 26) ?hr ?_; (case hd => rfl); (case hg => rfl); (case hr => first | (go_simp; done) | (go_simp; rfl)); intro gb218 hg w5 hbox hb; have n0_ := Aside0.mk (blk_below (g := gb217) (o := .cells #[.slice A0_0 l0_0.length c0_0, .slice A0_1 l0_1.length c0_1] 26 (0, 0)) (by (with_reducible repeat (first | refine blk_drewN ?_ _ | refine blk_drew ?_ | refine blk_alloc ?_ _)); exact BK217.out) hb); have n1_ := Aside0.mk (below_step (by repeat (first | (with_reducible first | exact HB.out | apply below_alloc | apply pw_below_drewN | apply below_drew1 | refine below_set ?_ GE217.out) | exact HB.out)) hb); have n2_ := Aside0.mk (hbox); have n3_ := Aside0.mk ((by rw [hg]; exact (below_size (by repeat (first | (with_reducible first | exact HB.out | apply below_alloc | apply pw_below_drewN | apply below_drew1 | refine below_set ?_ GE217.out) | exact HB.out))) : w.heap.size ≤ gb218)); have n4_ := Aside0.mk ((by rw [hg]; exact (below_size (by repeat (first | (with_reducible first | exact HB.out | apply below_alloc | apply pw_below_drewN | apply below_drew1 | refine below_set ?_ GE217.out) | exact HB.out))) : w.heap.size ≤ gb218)); have n5_ := Aside0.mk ((by rw [hg]; exact Nat.ne_of_lt (blk_lt (g := gb217) (o := .cells #[.slice A0_0 l0_0.length c0_0, .slice A0_1 l0_1.length c0_1] 26 (0, 0)) (by (with_reducible repeat (first | refine blk_drewN ?_ _ | refine blk_drew ?_ | refine blk_alloc ?_ _)); exact BK217.out)) : gb217 ≠ gb218)); have n6_ := Aside0.mk ((by rw [hg]; exact Nat.ne_of_gt (blk_lt (g := gb217) (o := .cells #[.slice A0_0 l0_0.length c0_0, .slice A0_1 l0_1.length c0_1] 26 (0, 0)) (by (with_reducible repeat (first | refine blk_drewN ?_ _ | refine blk_drew ?_ | refine blk_alloc ?_ _)); exact BK217.out)) : gb218 ≠ gb217)); clear BK217; clear HB; have BK217 := n0_; have HB := n1_; have BK218 := n2_; have GW218 := n3_; have GE218 := n4_; have NB217_218 := n5_; have NB218_217 := n6_; clear n0_ n1_ n2_ n3_ n4_ n5_ n6_; clear hb hbox hg))
 repeat (go_quiet (first | ((with_reducible refine gate_dst (N := 2) rfl ?_); (try (refine gate_guard (by rfl) ?_; dsimp only)); refine box_event ?hg (N := 2) ?hd (cs := #[.slice A0_0 l0_0.length c0_0, .slice A0_1 l0_1.length c0_1]) (t := 26) ?hr ?_; (case hd => rfl); (case hg => rfl); (case hr => first | (go_simp; done) | (go_simp; rfl)); intro gb217 hg w4 hbox hb; have n0_ := Aside0.mk (below_step (by repeat (first | (with_reducible first | exact HB.out | apply below_alloc | apply pw_below_drewN | apply below_drew1) | exact HB.out)) hb); have n1_ := Aside0.mk (hbox); have n2_ := Aside0.mk ((by rw [hg]; exact (below_size (by repeat (first | (with_reducible first | exact HB.out | apply below_alloc | apply pw_below_drewN | apply below_drew1) | exact HB.out))) : w.heap.size ≤ gb217)); have n3_ := Aside0.mk ((by rw [hg]; exact (below_size (by repeat (first | (with_reducible first | exact HB.out | apply below_alloc | apply pw_below_drewN | apply below_drew1) | exact HB.out))) : w.heap.size ≤ gb217)); clear HB; have HB := n0_; have BK217 := n1_; have GW217 := n2_; have GE217 := n3_; clear n0_ n1_ n2_ n3_; clear hb hbox hg) | ((with_reducible refine gate_dst (N := 3) rfl ?_); (try (refine gate_guard (by rfl) ?_; dsimp only)); refine box_event ?hg (N := 3) ?hd (cs := #[.slice A1_0 l1_0.length c1_0, .slice A1_1 l1_1.length c1_1]) (t := 26) ?hr ?_; (case hd => rfl); (case hg => rfl); (case hr => first | (go_simp; done) | (go_simp; rfl)); intro gb218 hg w5 hbox hb; have n0_ := Aside0.mk (blk_below (g := gb217) (o := .cells #[.slice A0_0 l0_0.length c0_0, .slice A0_1 l0_1.length c0_1] 26 (0, 0)) (by (with_reducible repeat (first | refine blk_drewN ?_ _ | refine blk_drew ?_ | refine blk_alloc ?_ _)); exact BK217.out) hb); have n1_ := Aside0.mk (below_step (by repeat (first | (with_reducible first | exact HB.out | apply below_alloc | apply pw_below_drewN | apply below_drew1 | refine below_set ?_ GE217.out) | exact HB.out)) hb); have n2_ := Aside0.mk (hbox); have n3_ := Aside0.mk ((by rw [hg]; exact (below_size (by repeat (first | (with_reducible first | exact HB.out | apply below_alloc | apply pw_below_drewN | apply below_drew1 | refine below_set ?_ GE217.out) | exact HB.out))) : w.heap.size ≤ gb218)); have n4_ := Aside0.mk ((by rw [hg]; exact (below_size (by repeat (first | (with_reducible first | exact HB.out | apply below_alloc | apply pw_below_drewN | apply below_drew1 | refine below_set ?_ GE217.out) | exact HB.out))) : w.heap.size ≤ gb218)); have n5_ := Aside0.mk ((by rw [hg]; exact Nat.ne_of_lt (blk_lt (g := gb217) (o := .cells #[.slice A0_0 l0_0.length c0_0, .slice A0_1 l0_1.length c0_1] 26 (0, 0)) (by (with_reducible repeat (first | refine blk_drewN ?_ _ | refine blk_drew ?_ | refine blk_alloc ?_ _)); exact BK217.out)) : gb217 ≠ gb218)); have n6_ := Aside0.mk ((by rw [hg]; exact Nat.ne_of_gt (blk_lt (g := gb217) (o := .cells #[.slice A0_0 l0_0.length c0_0, .slice A0_1 l0_1.length c0_1] 26 (0, 0)) (by (with_reducible repeat (first | refine blk_drewN ?_ _ | refine blk_drew ?_ | refine blk_alloc ?_ _)); exact BK217.out)) : gb218 ≠ gb217)); clear BK217; clear HB; have BK217 := n0_; have HB := n1_; have BK218 := n2_; have GW218 := n3_; have GE218 := n4_; have NB217_218 := n5_; have NB218_217 := n6_; clear n0_ n1_ n2_ n3_ n4_ n5_ n6_; clear hb hbox hg)); go_upto_region 1 with (first | ((with_reducible refine gate_dst (N := 2) rfl ?_); (try (refine gate_guard (by rfl) ?_; dsimp only)); refine box_event ?hg (N := 2) ?hd (cs := #[.slice A0_0 l0_0.length c0_0, .slice A0_1 l0_1.length c0_1]) (t := 26) ?hr ?_; (case hd => rfl); (case hg => rfl); (case hr => first | (go_simp; done) | (go_simp; rfl)); intro gb217 hg w4 hbox hb; have n0_ := Aside0.mk (below_step (by repeat (first | (with_reducible first | exact HB.out | apply below_alloc | apply pw_below_drewN | apply below_drew1) | exact HB.out)) hb); have n1_ := Aside0.mk (hbox); have n2_ := Aside0.mk ((by rw [hg]; exact (below_size (by repeat (first | (with_reducible first | exact HB.out | apply below_alloc | apply pw_below_drewN | apply below_drew1) | exact HB.out))) : w.heap.size ≤ gb217)); have n3_ := Aside0.mk ((by rw [hg]; exact (below_size (by repeat (first | (with_reducible first | exact HB.out | apply below_alloc | apply pw_below_drewN | apply below_drew1) | exact HB.out))) : w.heap.size ≤ gb217)); clear HB; have HB := n0_; have BK217 := n1_; have GW217 := n2_; have GE217 := n3_; clear n0_ n1_ n2_ n3_; clear hb hbox hg) | ((with_reducible refine gate_dst (N := 3) rfl ?_); (try (refine gate_guard (by rfl) ?_; dsimp only)); refine box_event ?hg (N := 3) ?hd (cs := #[.slice A1_0 l1_0.length c1_0, .slice A1_1 l1_1.length c1_1]) (t := 26) ?hr ?_; (case hd => rfl); (case hg => rfl); (case hr => first | (go_simp; done) | (go_simp; rfl)); intro gb218 hg w5 hbox hb; have n0_ := Aside0.mk (blk_below (g := gb217) (o := .cells #[.slice A0_0 l0_0.length c0_0, .slice A0_1 l0_1.length c0_1] 26 (0, 0)) (by (with_reducible repeat (first | refine blk_drewN ?_ _ | refine blk_drew ?_ | refine blk_alloc ?_ _)); exact BK217.out) hb); have n1_ := Aside0.mk (below_step (by repeat (first | (with_reducible first | exact HB.out | apply below_alloc | apply pw_below_drewN | apply below_drew1 | refine below_set ?_ GE217.out) | exact HB.out)) hb); have n2_ := Aside0.mk (hbox); have n3_ := Aside0.mk ((by rw [hg]; exact (below_size (by repeat (first | (with_reducible first | exact HB.out | apply below_alloc | apply pw_below_drewN | apply below_drew1 | refine below_set ?_ GE217.out) | exact HB.out))) : w.heap.size ≤ gb218)); have n4_ := Aside0.mk ((by rw [hg]; exact (below_size (by repeat (first | (with_reducible first | exact HB.out | apply below_alloc | apply pw_below_drewN | apply below_drew1 | refine below_set ?_ GE217.out) | exact HB.out))) : w.heap.size ≤ gb218)); have n5_ := Aside0.mk ((by rw [hg]; exact Nat.ne_of_lt (blk_lt (g := gb217) (o := .cells #[.slice A0_0 l0_0.length c0_0, .slice A0_1 l0_1.length c0_1] 26 (0, 0)) (by (with_reducible repeat (first | refine blk_drewN ?_ _ | refine blk_drew ?_ | refine blk_alloc ?_ _)); exact BK217.out)) : gb217 ≠ gb218)); have n6_ := Aside0.mk ((by rw [hg]; exact Nat.ne_of_gt (blk_lt (g := gb217) (o := .cells #[.slice A0_0 l0_0.length c0_0, .slice A0_1 l0_1.length c0_1] 26 (0, 0)) (by (with_reducible repeat (first | refine blk_drewN ?_ _ | refine blk_drew ?_ | refine blk_alloc ?_ _)); exact BK217.out)) : gb218 ≠ gb217)); clear BK217; clear HB; have BK217 := n0_; have HB := n1_; have BK218 := n2_; have GW218 := n3_; have GE218 := n4_; have NB217_218 := n5_; have NB218_217 := n6_; clear n0_ n1_ n2_ n3_ n4_ n5_ n6_; clear hb hbox hg)))
 (try simp only [Act.put, List.setIfInBounds_toArray, List.set_cons_zero, List.set_cons_succ])
 go_cut [23] (fun v23 wc => ∃ (kq : Nat) (x23_2 : Bool), v23 = .bool x23_2 ∧ Aside0 (selfstabref01_Same.j0 kq x23_2 l0_0 l0_1 l1_0 l1_1 = some r) ∧ Aside0 (kq ≤ k) ∧ Aside0 (wc.heap[gb217]? = some (.cells #[(.slice A0_0 l0_0.length c0_0), (.slice A0_1 l0_1.length c0_1)] 26 (0, 0))) ∧ Aside0 (wc.heap[gb218]? = some (.cells #[(.slice A1_0 l1_0.length c1_0), (.slice A1_1 l1_1.length c1_1)] 26 (0, 0))) ∧ Aside0 (Below w.heap.size w wc))
 case first =>
  have H := HC3.out
  clear HC3;by_cases c6 : (l0_0.length : Int) = (l1_0.length : Int)
  ·rw [if_pos c6] at H
   have c6b0 : ((l0_0.length : Int) == (l1_0.length : Int)) = true := beq_iff_eq.mpr c6
   have c6b1 : ((l0_0.length : Int) != (l1_0.length : Int)) = false := bne_eq_false_iff_eq.mpr c6
   have c6b2 : (l0_0.length == l1_0.length) = true := by first | simpa using c6 | (simp at c6 ⊢; omega)
   clear c6;(first | rw [c6b0] | (simp only [i64_w, i32_w]; rw [c6b0]) | skip)
   have H' := Aside0.mk H
   clear H;have hnb7 := NB217_218.out
   have hnc7 := NB218_217.out
   have hcz8_0 : w5.cell? ⟨gb217, 0, none⟩ = some (.slice A0_0 l0_0.length c0_0) := (blk_cell BK217.out 0).trans rfl
   have hcz8_1 : w5.cell? ⟨gb217, 1, none⟩ = some (.slice A0_1 l0_1.length c0_1) := (blk_cell BK217.out 1).trans rfl
   have hfz8_0 := blk_frozen BK217.out 0
   have hfz8_1 := blk_frozen BK217.out 1
   have hcz9_0 : w5.cell? ⟨gb218, 0, none⟩ = some (.slice A1_0 l1_0.length c1_0) := (blk_cell BK218.out 0).trans rfl
   have hcz9_1 : w5.cell? ⟨gb218, 1, none⟩ = some (.slice A1_1 l1_1.length c1_1) := (blk_cell BK218.out 1).trans rfl
   have hfz9_0 := blk_frozen BK218.out 0
   have hfz9_1 := blk_frozen BK218.out 1
   go_wp2
   repeat (go_quiet (fail); try go_wp2)
   go_meet
   case rel => exact ⟨_, (((l0_1.length : Int) != (l1_1.length : Int))), (by first | rfl | (simp; done) | (simp [*]; done)), H', ⟨by first | omega | exact Nat.le_refl _⟩, ⟨by (with_reducible repeat (first | refine blk_drewN ?_ _ | refine blk_drew ?_ | refine blk_alloc ?_ _)); exact BK217.out⟩, ⟨by (with_reducible repeat (first | refine blk_drewN ?_ _ | refine blk_drew ?_ | refine blk_alloc ?_ _)); exact BK218.out⟩, ⟨by repeat (first | (with_reducible first | exact HB.out | apply below_alloc | apply pw_below_drewN | apply below_drew1 | refine below_set ?_ GE217.out | refine below_set ?_ GE218.out) | exact HB.out)⟩⟩
  ·rw [if_neg c6] at H
   have c6b0 : ((l0_0.length : Int) == (l1_0.length : Int)) = false := beq_eq_false_iff_ne.mpr c6
   have c6b1 : ((l0_0.length : Int) != (l1_0.length : Int)) = true := bne_iff_ne.mpr c6
   have c6b2 : (l0_0.length == l1_0.length) = false := by first | simpa using c6 | (simp at c6 ⊢; omega)
   (first | rw [c6b0] | (simp only [i64_w, i32_w]; rw [c6b0]) | skip)
   have H' := Aside0.mk H
   clear H;have hnb10 := NB217_218.out
   have hnc10 := NB218_217.out
   have hcz11_0 : w5.cell? ⟨gb217, 0, none⟩ = some (.slice A0_0 l0_0.length c0_0) := (blk_cell BK217.out 0).trans rfl
   have hcz11_1 : w5.cell? ⟨gb217, 1, none⟩ = some (.slice A0_1 l0_1.length c0_1) := (blk_cell BK217.out 1).trans rfl
   have hfz11_0 := blk_frozen BK217.out 0
   have hfz11_1 := blk_frozen BK217.out 1
   have hcz12_0 : w5.cell? ⟨gb218, 0, none⟩ = some (.slice A1_0 l1_0.length c1_0) := (blk_cell BK218.out 0).trans rfl
   have hcz12_1 : w5.cell? ⟨gb218, 1, none⟩ = some (.slice A1_1 l1_1.length c1_1) := (blk_cell BK218.out 1).trans rfl
   have hfz12_0 := blk_frozen BK218.out 0
   have hfz12_1 := blk_frozen BK218.out 1
   go_wp2
   repeat (go_quiet (fail); try go_wp2)
   go_meet
   case rel => exact ⟨_, (true), (by first | rfl | (simp; done) | (simp [*]; done)), H', ⟨by first | omega | exact Nat.le_refl _⟩, ⟨by (with_reducible repeat (first | refine blk_drewN ?_ _ | refine blk_drew ?_ | refine blk_alloc ?_ _)); exact BK217.out⟩, ⟨by (with_reducible repeat (first | refine blk_drewN ?_ _ | refine blk_drew ?_ | refine blk_alloc ?_ _)); exact BK218.out⟩, ⟨by repeat (first | (with_reducible first | exact HB.out | apply below_alloc | apply pw_below_drewN | apply below_drew1 | refine below_set ?_ GE217.out | refine below_set ?_ GE218.out) | exact HB.out)⟩⟩
 case rest =>
  clear HC3;obtain ⟨kq, x23_2, rfl, HA, HJ2, BK217, BK218, HB⟩ := hcut
  cases kq with
  | zero => exact absurd HA.out (by simp [selfstabref01_Same.j0])
  | succ kj2 =>
   have H := HA.out
   clear HA;simp only [selfstabref01_Same.j0] at H
   by_cases c13 : x23_2 = true
   ·subst c13;have H1 : (some false) = some r := by rw [if_pos rfl] at H; exact H
    clear H;have H := H1
    clear H1;obtain rfl := Option.some.inj H
    go_wp2
    repeat (go_quiet (fail); try go_wp2)
    go_ret
    exact ⟨by first | rfl | (simp [errW_none, errW_some] <;> rfl) | (simp [*, errW_none, errW_some] <;> rfl), by repeat (first | (with_reducible first | exact HB.out | apply below_alloc | apply pw_below_drewN | apply below_drew1 | refine below_set ?_ GE217.out | refine below_set ?_ GE218.out) | exact HB.out)⟩
   ·replace c13 := Bool.eq_false_iff.mpr c13
    subst c13;have H1 : (selfstabref01_Same.l0 kj2 0 l0_0 l0_1 l1_0 l1_1) = some r := by rw [if_neg (show ¬ (false = true) by decide)] at H; exact H
    clear H;have H := H1
    clear H1;have H' := Aside0.mk H
    clear H;go_wp2
    repeat (go_quiet (fail); try go_wp2)
    go_loopg [5] kj2 (fun kq v5 w' => ∃ (x5_2 : Int), v5 = .int .i64 x5_2 ∧ Aside0 (selfstabref01_Same.l0 kq x5_2 l0_0 l0_1 l1_0 l1_1 = some r) ∧ Aside0 (kq ≤ kj2) ∧ Aside0 (w'.heap[gb217]? = some (.cells #[(.slice A0_0 l0_0.length c0_0), (.slice A0_1 l0_1.length c0_1)] 26 (0, 0))) ∧ Aside0 (w'.heap[gb218]? = some (.cells #[(.slice A1_0 l1_0.length c1_0), (.slice A1_1 l1_1.length c1_1)] 26 (0, 0))) ∧ Aside0 (Below w.heap.size w w'))
    case atStart => exact ⟨(0), (by first | rfl | (simp; done) | (simp [*]; done)), H', ⟨Nat.le_refl _⟩, ⟨by (with_reducible repeat (first | refine blk_drewN ?_ _ | refine blk_drew ?_ | refine blk_alloc ?_ _)); exact BK217.out⟩, ⟨by (with_reducible repeat (first | refine blk_drewN ?_ _ | refine blk_drew ?_ | refine blk_alloc ?_ _)); exact BK218.out⟩, ⟨by repeat (first | (with_reducible first | exact HB.out | apply below_alloc | apply pw_below_drewN | apply below_drew1 | refine below_set ?_ GE217.out | refine below_set ?_ GE218.out) | exact HB.out)⟩⟩
    case round =>
     clear H';try clear c13
     obtain ⟨x5_2, rfl, HA, HK2, BK217, BK218, HB⟩ := hrel
     cases gk with
     | zero => exact absurd HA.out (by simp [selfstabref01_Same.l0])
     | succ k2 =>
      have H := HA.out
      clear HA;simp only [selfstabref01_Same.l0] at H
      by_cases c14 : x5_2 < (l0_0.length : Int)
      ·rw [if_pos c14] at H
       have c14b0 : decide (x5_2 < (l0_0.length : Int)) = true := decide_eq_true c14
       clear c14;by_cases c15 : 0 ≤ x5_2
       ·rw [if_pos c15] at H
        have c15b0 : decide (0 ≤ x5_2) = true := decide_eq_true c15
        clear c15;by_cases c16 : x5_2 < (l1_0.length : Int)
        ·rw [if_pos c16] at H
         have c16b0 : decide (x5_2 < (l1_0.length : Int)) = true := decide_eq_true c16
         clear c16;by_cases c17 : (rd l0_0 x5_2) = (rd l1_0 x5_2)
         ·rw [if_pos c17] at H
          have c17b0 : ((rd l0_0 x5_2) == (rd l1_0 x5_2)) = true := beq_iff_eq.mpr c17
          have c17b1 : ((rd l0_0 x5_2) != (rd l1_0 x5_2)) = false := bne_eq_false_iff_eq.mpr c17
          clear c17;have H' := Aside0.mk H
          clear H;have hnb18 := NB217_218.out
          have hnc18 := NB218_217.out
          have hcz19_0 : wr.cell? ⟨gb217, 0, none⟩ = some (.slice A0_0 l0_0.length c0_0) := (blk_cell BK217.out 0).trans rfl
          have hcz19_1 : wr.cell? ⟨gb217, 1, none⟩ = some (.slice A0_1 l0_1.length c0_1) := (blk_cell BK217.out 1).trans rfl
          have hfz19_0 := blk_frozen BK217.out 0
          have hfz19_1 := blk_frozen BK217.out 1
          have p219 : 0 ≤ (x5_2 : Int) := of_decide_eq_true (by first | (with_reducible assumption) | assumption)
          have q219 : x5_2 < (l0_0.length : Int) := of_decide_eq_true (by first | (with_reducible assumption) | assumption)
          obtain ⟨ad219, e219, hx219_0⟩ := Kd.at_int HR0_0.out x5_2 p219 q219
          cases e219;replace hx219_0 := (HB.out.cell (World.block_lt_of_cell? w _ hx219_0)).trans hx219_0
          replace p219 := eq_true p219;replace q219 := eq_true q219;have hcz20_0 : wr.cell? ⟨gb218, 0, none⟩ = some (.slice A1_0 l1_0.length c1_0) := (blk_cell BK218.out 0).trans rfl
          have hcz20_1 : wr.cell? ⟨gb218, 1, none⟩ = some (.slice A1_1 l1_1.length c1_1) := (blk_cell BK218.out 1).trans rfl
          have hfz20_0 := blk_frozen BK218.out 0
          have hfz20_1 := blk_frozen BK218.out 1
          have p220 : 0 ≤ (x5_2 : Int) := of_decide_eq_true (by first | (with_reducible assumption) | assumption)
          have q220 : x5_2 < (l1_0.length : Int) := of_decide_eq_true (by first | (with_reducible assumption) | assumption)
          obtain ⟨ad220, e220, hx220_0⟩ := Kd.at_int HR1_0.out x5_2 p220 q220
          cases e220;replace hx220_0 := (HB.out.cell (World.block_lt_of_cell? w _ hx220_0)).trans hx220_0
          replace p220 := eq_true p220;replace q220 := eq_true q220;go_wp2
          repeat (go_quiet (fail); try go_wp2)
          go_roundg k2
          case measure => have := HJ2.out; have := HK2.out; omega
          case rel => exact ⟨(wrap64 (x5_2 + 1)), (by first | rfl | (simp; done) | (simp [*]; done)), H', ⟨by have := HJ2.out; have := HK2.out; omega⟩, ⟨by (with_reducible repeat (first | refine blk_drewN ?_ _ | refine blk_drew ?_ | refine blk_alloc ?_ _)); exact BK217.out⟩, ⟨by (with_reducible repeat (first | refine blk_drewN ?_ _ | refine blk_drew ?_ | refine blk_alloc ?_ _)); exact BK218.out⟩, ⟨by repeat (first | (with_reducible first | exact HB.out | apply below_alloc | apply pw_below_drewN | apply below_drew1 | refine below_set ?_ GE217.out | refine below_set ?_ GE218.out) | exact HB.out)⟩⟩
         ·rw [if_neg c17] at H
          have c17b0 : ((rd l0_0 x5_2) == (rd l1_0 x5_2)) = false := beq_eq_false_iff_ne.mpr c17
          have c17b1 : ((rd l0_0 x5_2) != (rd l1_0 x5_2)) = true := bne_iff_ne.mpr c17
          obtain rfl := Option.some.inj H
          have hnb21 := NB217_218.out
          have hnc21 := NB218_217.out
          have hcz22_0 : wr.cell? ⟨gb217, 0, none⟩ = some (.slice A0_0 l0_0.length c0_0) := (blk_cell BK217.out 0).trans rfl
          have hcz22_1 : wr.cell? ⟨gb217, 1, none⟩ = some (.slice A0_1 l0_1.length c0_1) := (blk_cell BK217.out 1).trans rfl
          have hfz22_0 := blk_frozen BK217.out 0
          have hfz22_1 := blk_frozen BK217.out 1
          have p219 : 0 ≤ (x5_2 : Int) := of_decide_eq_true (by first | (with_reducible assumption) | assumption)
          have q219 : x5_2 < (l0_0.length : Int) := of_decide_eq_true (by first | (with_reducible assumption) | assumption)
          obtain ⟨ad219, e219, hx219_0⟩ := Kd.at_int HR0_0.out x5_2 p219 q219
          cases e219;replace hx219_0 := (HB.out.cell (World.block_lt_of_cell? w _ hx219_0)).trans hx219_0
          replace p219 := eq_true p219;replace q219 := eq_true q219;have hcz23_0 : wr.cell? ⟨gb218, 0, none⟩ = some (.slice A1_0 l1_0.length c1_0) := (blk_cell BK218.out 0).trans rfl
          have hcz23_1 : wr.cell? ⟨gb218, 1, none⟩ = some (.slice A1_1 l1_1.length c1_1) := (blk_cell BK218.out 1).trans rfl
          have hfz23_0 := blk_frozen BK218.out 0
          have hfz23_1 := blk_frozen BK218.out 1
          have p220 : 0 ≤ (x5_2 : Int) := of_decide_eq_true (by first | (with_reducible assumption) | assumption)
          have q220 : x5_2 < (l1_0.length : Int) := of_decide_eq_true (by first | (with_reducible assumption) | assumption)
          obtain ⟨ad220, e220, hx220_0⟩ := Kd.at_int HR1_0.out x5_2 p220 q220
          cases e220;replace hx220_0 := (HB.out.cell (World.block_lt_of_cell? w _ hx220_0)).trans hx220_0
          replace p220 := eq_true p220;replace q220 := eq_true q220;go_wp2
          repeat (go_quiet (fail); try go_wp2)
          go_ret
          exact ⟨by first | rfl | (simp [errW_none, errW_some] <;> rfl) | (simp [*, errW_none, errW_some] <;> rfl), by repeat (first | (with_reducible first | exact HB.out | apply below_alloc | apply pw_below_drewN | apply below_drew1 | refine below_set ?_ GE217.out | refine below_set ?_ GE218.out) | exact HB.out)⟩
        ·rw [if_neg c16] at H
         exact absurd H (by simp)
       ·rw [if_neg c15] at H
        exact absurd H (by simp)
      ·rw [if_neg c14] at H
       have c14b0 : decide (x5_2 < (l0_0.length : Int)) = false := decide_eq_false c14
       clear c14;have H' := Aside0.mk H
       clear H;have hnb24 := NB217_218.out
       have hnc24 := NB218_217.out
       have hcz25_0 : wr.cell? ⟨gb217, 0, none⟩ = some (.slice A0_0 l0_0.length c0_0) := (blk_cell BK217.out 0).trans rfl
       have hcz25_1 : wr.cell? ⟨gb217, 1, none⟩ = some (.slice A0_1 l0_1.length c0_1) := (blk_cell BK217.out 1).trans rfl
       have hfz25_0 := blk_frozen BK217.out 0
       have hfz25_1 := blk_frozen BK217.out 1
       go_wp2
       repeat (go_quiet (fail); try go_wp2)
       go_loopg [6] k2 (fun kq v6 w' => ∃ (x6_3 : Int), v6 = .int .i64 x6_3 ∧ Aside0 (selfstabref01_Same.l1 kq x6_3 l0_0 l0_1 l1_0 l1_1 = some r) ∧ Aside0 (kq ≤ k2) ∧ Aside0 (w'.heap[gb217]? = some (.cells #[(.slice A0_0 l0_0.length c0_0), (.slice A0_1 l0_1.length c0_1)] 26 (0, 0))) ∧ Aside0 (w'.heap[gb218]? = some (.cells #[(.slice A1_0 l1_0.length c1_0), (.slice A1_1 l1_1.length c1_1)] 26 (0, 0))) ∧ Aside0 (Below w.heap.size w w'))
       case atStart => exact ⟨(0), (by first | rfl | (simp; done) | (simp [*]; done)), H', ⟨Nat.le_refl _⟩, ⟨by (with_reducible repeat (first | refine blk_drewN ?_ _ | refine blk_drew ?_ | refine blk_alloc ?_ _)); exact BK217.out⟩, ⟨by (with_reducible repeat (first | refine blk_drewN ?_ _ | refine blk_drew ?_ | refine blk_alloc ?_ _)); exact BK218.out⟩, ⟨by repeat (first | (with_reducible first | exact HB.out | apply below_alloc | apply pw_below_drewN | apply below_drew1 | refine below_set ?_ GE217.out | refine below_set ?_ GE218.out) | exact HB.out)⟩⟩
       case round =>
        clear H';try clear c13
        try clear c14
        try clear c14b0
        try clear hcz25_0
        try clear hcz25_1
        try clear hfz25_0
        try clear hfz25_1
        obtain ⟨x6_3, rfl, HA, HK3, BK217, BK218, HB⟩ := hrel
        cases gk with
        | zero => exact absurd HA.out (by simp [selfstabref01_Same.l1])
        | succ k3 =>
         have H := HA.out
         clear HA;simp only [selfstabref01_Same.l1] at H
         by_cases c26 : x6_3 < (l0_1.length : Int)
         ·rw [if_pos c26] at H
          have c26b0 : decide (x6_3 < (l0_1.length : Int)) = true := decide_eq_true c26
          clear c26;by_cases c27 : 0 ≤ x6_3
          ·rw [if_pos c27] at H
           have c27b0 : decide (0 ≤ x6_3) = true := decide_eq_true c27
           clear c27;by_cases c28 : x6_3 < (l1_1.length : Int)
           ·rw [if_pos c28] at H
            have c28b0 : decide (x6_3 < (l1_1.length : Int)) = true := decide_eq_true c28
            clear c28;by_cases c29 : ((rd_L3 l0_1 x6_3).length : Int) = ((rd_L3 l1_1 x6_3).length : Int)
            ·rw [if_pos c29] at H
             have c29b0 : (((rd_L3 l0_1 x6_3).length : Int) == ((rd_L3 l1_1 x6_3).length : Int)) = true := beq_iff_eq.mpr c29
             have c29b1 : (((rd_L3 l0_1 x6_3).length : Int) != ((rd_L3 l1_1 x6_3).length : Int)) = false := bne_eq_false_iff_eq.mpr c29
             have c29b2 : ((rd_L3 l0_1 x6_3).length == (rd_L3 l1_1 x6_3).length) = true := by first | simpa using c29 | (simp at c29 ⊢; omega)
             clear c29;have H' := Aside0.mk H
             clear H;have hnb30 := NB217_218.out
             have hnc30 := NB218_217.out
             have hcz31_0 : wr.cell? ⟨gb217, 0, none⟩ = some (.slice A0_0 l0_0.length c0_0) := (blk_cell BK217.out 0).trans rfl
             have hcz31_1 : wr.cell? ⟨gb217, 1, none⟩ = some (.slice A0_1 l0_1.length c0_1) := (blk_cell BK217.out 1).trans rfl
             have hfz31_0 := blk_frozen BK217.out 0
             have hfz31_1 := blk_frozen BK217.out 1
             have p221 : 0 ≤ (x6_3 : Int) := of_decide_eq_true (by first | (with_reducible assumption) | assumption)
             have q221 : x6_3 < (l0_1.length : Int) := of_decide_eq_true (by first | (with_reducible assumption) | assumption)
             obtain ⟨ad221, A221_0, c221_0, e221, hx221_0, hl221_0, hi221_0⟩ := at_L3 HR0_1.out x6_3 p221 q221
             cases e221;replace hx221_0 := (HB.out.cell (World.block_lt_of_cell? w _ hx221_0)).trans hx221_0
             have HR221_0 := Aside0.mk hi221_0
             have HC221_0 := Aside0.mk hl221_0
             clear hi221_0 hl221_0;replace p221 := eq_true p221;replace q221 := eq_true q221;have hcz32_0 : wr.cell? ⟨gb218, 0, none⟩ = some (.slice A1_0 l1_0.length c1_0) := (blk_cell BK218.out 0).trans rfl
             have hcz32_1 : wr.cell? ⟨gb218, 1, none⟩ = some (.slice A1_1 l1_1.length c1_1) := (blk_cell BK218.out 1).trans rfl
             have hfz32_0 := blk_frozen BK218.out 0
             have hfz32_1 := blk_frozen BK218.out 1
             have p222 : 0 ≤ (x6_3 : Int) := of_decide_eq_true (by first | (with_reducible assumption) | assumption)
             have q222 : x6_3 < (l1_1.length : Int) := of_decide_eq_true (by first | (with_reducible assumption) | assumption)
             obtain ⟨ad222, A222_0, c222_0, e222, hx222_0, hl222_0, hi222_0⟩ := at_L3 HR1_1.out x6_3 p222 q222
             cases e222;replace hx222_0 := (HB.out.cell (World.block_lt_of_cell? w _ hx222_0)).trans hx222_0
             have HR222_0 := Aside0.mk hi222_0
             have HC222_0 := Aside0.mk hl222_0
             clear hi222_0 hl222_0;replace p222 := eq_true p222;replace q222 := eq_true q222;go_wp2
             repeat (go_quiet (fail); try go_wp2)
             go_loopg [7] k3 (fun kq v7 w' => ∃ (x7_4 : Int), v7 = .int .i64 x7_4 ∧ Aside0 (selfstabref01_Same.l2 kq x6_3 x7_4 l0_0 l0_1 l1_0 l1_1 = some r) ∧ Aside0 (kq ≤ k3) ∧ Aside0 (w'.heap[gb217]? = some (.cells #[(.slice A0_0 l0_0.length c0_0), (.slice (some ad221) l0_1.length c0_1)] 26 (0, 0))) ∧ Aside0 (w'.heap[gb218]? = some (.cells #[(.slice A1_0 l1_0.length c1_0), (.slice (some ad222) l1_1.length c1_1)] 26 (0, 0))) ∧ Aside0 (Below w.heap.size w w'))
             case atStart => exact ⟨(0), (by first | rfl | (simp; done) | (simp [*]; done)), H', ⟨Nat.le_refl _⟩, ⟨by (with_reducible repeat (first | refine blk_drewN ?_ _ | refine blk_drew ?_ | refine blk_alloc ?_ _)); exact BK217.out⟩, ⟨by (with_reducible repeat (first | refine blk_drewN ?_ _ | refine blk_drew ?_ | refine blk_alloc ?_ _)); exact BK218.out⟩, ⟨by repeat (first | (with_reducible first | exact HB.out | apply below_alloc | apply pw_below_drewN | apply below_drew1 | refine below_set ?_ GE217.out | refine below_set ?_ GE218.out) | exact HB.out)⟩⟩
             case round =>
              clear H';try clear c13
              try clear c14
              try clear c14b0
              try clear c26
              try clear c26b0
              try clear c27
              try clear c27b0
              try clear c28
              try clear c28b0
              try clear c29
              try clear c29b0
              try clear c29b1
              try clear c29b2
              try clear hcz25_0
              try clear hcz25_1
              try clear hcz31_0
              try clear hcz31_1
              try clear hcz32_0
              try clear hcz32_1
              try clear hfz25_0
              try clear hfz25_1
              try clear hfz31_0
              try clear hfz31_1
              try clear hfz32_0
              try clear hfz32_1
              try clear hx221_0
              try clear hx222_0
              try clear p221
              try clear p222
              try clear q221
              try clear q222
              obtain ⟨x7_4, rfl, HA, HK4, BK217, BK218, HB⟩ := hrel
              cases gk with
              | zero => exact absurd HA.out (by simp [selfstabref01_Same.l2])
              | succ k4 =>
               have H := HA.out
               clear HA;simp only [selfstabref01_Same.l2] at H
               by_cases c33 : 0 ≤ x6_3
               ·rw [if_pos c33] at H
                have c33b0 : decide (0 ≤ x6_3) = true := decide_eq_true c33
                clear c33;by_cases c34 : x6_3 < (l0_1.length : Int)
                ·rw [if_pos c34] at H
                 have c34b0 : decide (x6_3 < (l0_1.length : Int)) = true := decide_eq_true c34
                 clear c34;by_cases c35 : x7_4 < ((rd_L3 l0_1 x6_3).length : Int)
                 ·rw [if_pos c35] at H
                  have c35b0 : decide (x7_4 < ((rd_L3 l0_1 x6_3).length : Int)) = true := decide_eq_true c35
                  clear c35;by_cases c36 : 0 ≤ x7_4
                  ·rw [if_pos c36] at H
                   have c36b0 : decide (0 ≤ x7_4) = true := decide_eq_true c36
                   clear c36;by_cases c37 : x6_3 < (l1_1.length : Int)
                   ·rw [if_pos c37] at H
                    have c37b0 : decide (x6_3 < (l1_1.length : Int)) = true := decide_eq_true c37
                    clear c37;by_cases c38 : x7_4 < ((rd_L3 l1_1 x6_3).length : Int)
                    ·rw [if_pos c38] at H
                     have c38b0 : decide (x7_4 < ((rd_L3 l1_1 x6_3).length : Int)) = true := decide_eq_true c38
                     clear c38;by_cases c39 : (!(((rd_T41 (rd_L3 l0_1 x6_3) x7_4).f0) == ((rd_T41 (rd_L3 l1_1 x6_3) x7_4).f0)) || (!(((rd_T41 (rd_L3 l0_1 x6_3) x7_4).f1) == ((rd_T41 (rd_L3 l1_1 x6_3) x7_4).f1)))) = true
                     ·rw [if_pos c39] at H
                      have c39b0 : (!(((rd_T41 (rd_L3 l0_1 x6_3) x7_4).f0) == ((rd_T41 (rd_L3 l1_1 x6_3) x7_4).f0)) || (!(((rd_T41 (rd_L3 l0_1 x6_3) x7_4).f1) == ((rd_T41 (rd_L3 l1_1 x6_3) x7_4).f1)))) = true := c39
                      clear c39;obtain rfl := Option.some.inj H
                      have hnb40 := NB217_218.out
                      have hnc40 := NB218_217.out
                      have hcz41_0 : wr.cell? ⟨gb217, 0, none⟩ = some (.slice A0_0 l0_0.length c0_0) := (blk_cell BK217.out 0).trans rfl
                      have hcz41_1 : wr.cell? ⟨gb217, 1, none⟩ = some (.slice (some ad221) l0_1.length c0_1) := (blk_cell BK217.out 1).trans rfl
                      have hfz41_0 := blk_frozen BK217.out 0
                      have hfz41_1 := blk_frozen BK217.out 1
                      have p223 : 0 ≤ (x6_3 : Int) := of_decide_eq_true (by first | (with_reducible assumption) | assumption)
                      have q223 : x6_3 < (l0_1.length : Int) := of_decide_eq_true (by first | (with_reducible assumption) | assumption)
                      obtain ⟨ad223, A223_0, c223_0, e223, hx223_0, hl223_0, hi223_0⟩ := at_L3 HR0_1.out x6_3 p223 q223
                      obtain rfl : ad221 = ad223 := (by injection e223)
                      replace hx223_0 := (HB.out.cell (World.block_lt_of_cell? w _ hx223_0)).trans hx223_0
                      have HR223_0 := Aside0.mk hi223_0
                      have HC223_0 := Aside0.mk hl223_0
                      clear hi223_0 hl223_0;replace p223 := eq_true p223;replace q223 := eq_true q223;have p224 : 0 ≤ (x6_3 : Int) := of_decide_eq_true (by first | (with_reducible assumption) | assumption)
                      have q224 : x6_3 < (l0_1.length : Int) := of_decide_eq_true (by first | (with_reducible assumption) | assumption)
                      obtain ⟨ad224, A224_0, c224_0, e224, hx224_0, hl224_0, hi224_0⟩ := at_L3 HR0_1.out x6_3 p224 q224
                      obtain rfl : ad221 = ad224 := (by injection e224)
                      replace hx224_0 := (HB.out.cell (World.block_lt_of_cell? w _ hx224_0)).trans hx224_0
                      have HR224_0 := Aside0.mk hi224_0
                      have HC224_0 := Aside0.mk hl224_0
                      clear hi224_0 hl224_0;replace p224 := eq_true p224;replace q224 := eq_true q224;have ea_ := Option.some.inj (hx223_0.symm.trans hx224_0)
                      injection ea_ with ea_ en_ ec_
                      subst ea_;subst ec_;clear en_;have p225 : 0 ≤ (x7_4 : Int) := of_decide_eq_true (by first | (with_reducible assumption) | assumption)
                      have q225 : x7_4 < ((rd_L3 l0_1 x6_3).length : Int) := of_decide_eq_true (by first | (with_reducible assumption) | assumption)
                      obtain ⟨ad225, e225, hx225_0, hx225_1⟩ := at_T41 HR224_0.out x7_4 p225 q225
                      cases e225;replace hx225_0 := (HB.out.cell (World.block_lt_of_cell? w _ hx225_0)).trans hx225_0
                      replace hx225_1 := (HB.out.cell (World.block_lt_of_cell? w _ hx225_1)).trans hx225_1
                      replace p225 := eq_true p225;replace q225 := eq_true q225;have hcz42_0 : wr.cell? ⟨gb218, 0, none⟩ = some (.slice A1_0 l1_0.length c1_0) := (blk_cell BK218.out 0).trans rfl
                      have hcz42_1 : wr.cell? ⟨gb218, 1, none⟩ = some (.slice (some ad222) l1_1.length c1_1) := (blk_cell BK218.out 1).trans rfl
                      have hfz42_0 := blk_frozen BK218.out 0
                      have hfz42_1 := blk_frozen BK218.out 1
                      have p226 : 0 ≤ (x6_3 : Int) := of_decide_eq_true (by first | (with_reducible assumption) | assumption)
                      have q226 : x6_3 < (l1_1.length : Int) := of_decide_eq_true (by first | (with_reducible assumption) | assumption)
                      obtain ⟨ad226, A226_0, c226_0, e226, hx226_0, hl226_0, hi226_0⟩ := at_L3 HR1_1.out x6_3 p226 q226
                      obtain rfl : ad222 = ad226 := (by injection e226)
                      replace hx226_0 := (HB.out.cell (World.block_lt_of_cell? w _ hx226_0)).trans hx226_0
                      have HR226_0 := Aside0.mk hi226_0
                      have HC226_0 := Aside0.mk hl226_0
                      clear hi226_0 hl226_0;replace p226 := eq_true p226;replace q226 := eq_true q226;have p227 : 0 ≤ (x7_4 : Int) := of_decide_eq_true (by first | (with_reducible assumption) | assumption)
                      have q227 : x7_4 < ((rd_L3 l1_1 x6_3).length : Int) := of_decide_eq_true (by first | (with_reducible assumption) | assumption)
                      obtain ⟨ad227, e227, hx227_0, hx227_1⟩ := at_T41 HR226_0.out x7_4 p227 q227
                      cases e227;replace hx227_0 := (HB.out.cell (World.block_lt_of_cell? w _ hx227_0)).trans hx227_0
                      replace hx227_1 := (HB.out.cell (World.block_lt_of_cell? w _ hx227_1)).trans hx227_1
                      replace p227 := eq_true p227;replace q227 := eq_true q227;go_wp2
                      repeat (go_quiet (fail); try go_wp2)
                      go_ret
                      exact ⟨by first | rfl | (simp [errW_none, errW_some] <;> rfl) | (simp [*, errW_none, errW_some] <;> rfl), by repeat (first | (with_reducible first | exact HB.out | apply below_alloc | apply pw_below_drewN | apply below_drew1 | refine below_set ?_ GE217.out | refine below_set ?_ GE218.out) | exact HB.out)⟩
                     ·rw [if_neg c39] at H
                      have c39b0 : (!(((rd_T41 (rd_L3 l0_1 x6_3) x7_4).f0) == ((rd_T41 (rd_L3 l1_1 x6_3) x7_4).f0)) || (!(((rd_T41 (rd_L3 l0_1 x6_3) x7_4).f1) == ((rd_T41 (rd_L3 l1_1 x6_3) x7_4).f1)))) = false := by simpa using c39
                      clear c39;have H' := Aside0.mk H
                      clear H;have hnb43 := NB217_218.out
                      have hnc43 := NB218_217.out
                      have hcz44_0 : wr.cell? ⟨gb217, 0, none⟩ = some (.slice A0_0 l0_0.length c0_0) := (blk_cell BK217.out 0).trans rfl
                      have hcz44_1 : wr.cell? ⟨gb217, 1, none⟩ = some (.slice (some ad221) l0_1.length c0_1) := (blk_cell BK217.out 1).trans rfl
                      have hfz44_0 := blk_frozen BK217.out 0
                      have hfz44_1 := blk_frozen BK217.out 1
                      have p223 : 0 ≤ (x6_3 : Int) := of_decide_eq_true (by first | (with_reducible assumption) | assumption)
                      have q223 : x6_3 < (l0_1.length : Int) := of_decide_eq_true (by first | (with_reducible assumption) | assumption)
                      obtain ⟨ad223, A223_0, c223_0, e223, hx223_0, hl223_0, hi223_0⟩ := at_L3 HR0_1.out x6_3 p223 q223
                      obtain rfl : ad221 = ad223 := (by injection e223)
                      replace hx223_0 := (HB.out.cell (World.block_lt_of_cell? w _ hx223_0)).trans hx223_0
                      have HR223_0 := Aside0.mk hi223_0
                      have HC223_0 := Aside0.mk hl223_0
                      clear hi223_0 hl223_0;replace p223 := eq_true p223;replace q223 := eq_true q223;have p224 : 0 ≤ (x6_3 : Int) := of_decide_eq_true (by first | (with_reducible assumption) | assumption)
                      have q224 : x6_3 < (l0_1.length : Int) := of_decide_eq_true (by first | (with_reducible assumption) | assumption)
                      obtain ⟨ad224, A224_0, c224_0, e224, hx224_0, hl224_0, hi224_0⟩ := at_L3 HR0_1.out x6_3 p224 q224
                      obtain rfl : ad221 = ad224 := (by injection e224)
                      replace hx224_0 := (HB.out.cell (World.block_lt_of_cell? w _ hx224_0)).trans hx224_0
                      have HR224_0 := Aside0.mk hi224_0
                      have HC224_0 := Aside0.mk hl224_0
                      clear hi224_0 hl224_0;replace p224 := eq_true p224;replace q224 := eq_true q224;have ea_ := Option.some.inj (hx223_0.symm.trans hx224_0)
                      injection ea_ with ea_ en_ ec_
                      subst ea_;subst ec_;clear en_;have p225 : 0 ≤ (x7_4 : Int) := of_decide_eq_true (by first | (with_reducible assumption) | assumption)
                      have q225 : x7_4 < ((rd_L3 l0_1 x6_3).length : Int) := of_decide_eq_true (by first | (with_reducible assumption) | assumption)
                      obtain ⟨ad225, e225, hx225_0, hx225_1⟩ := at_T41 HR224_0.out x7_4 p225 q225
                      cases e225;replace hx225_0 := (HB.out.cell (World.block_lt_of_cell? w _ hx225_0)).trans hx225_0
                      replace hx225_1 := (HB.out.cell (World.block_lt_of_cell? w _ hx225_1)).trans hx225_1
                      replace p225 := eq_true p225;replace q225 := eq_true q225;have hcz45_0 : wr.cell? ⟨gb218, 0, none⟩ = some (.slice A1_0 l1_0.length c1_0) := (blk_cell BK218.out 0).trans rfl
                      have hcz45_1 : wr.cell? ⟨gb218, 1, none⟩ = some (.slice (some ad222) l1_1.length c1_1) := (blk_cell BK218.out 1).trans rfl
                      have hfz45_0 := blk_frozen BK218.out 0
                      have hfz45_1 := blk_frozen BK218.out 1
                      have p226 : 0 ≤ (x6_3 : Int) := of_decide_eq_true (by first | (with_reducible assumption) | assumption)
                      have q226 : x6_3 < (l1_1.length : Int) := of_decide_eq_true (by first | (with_reducible assumption) | assumption)
                      obtain ⟨ad226, A226_0, c226_0, e226, hx226_0, hl226_0, hi226_0⟩ := at_L3 HR1_1.out x6_3 p226 q226
                      obtain rfl : ad222 = ad226 := (by injection e226)
                      replace hx226_0 := (HB.out.cell (World.block_lt_of_cell? w _ hx226_0)).trans hx226_0
                      have HR226_0 := Aside0.mk hi226_0
                      have HC226_0 := Aside0.mk hl226_0
                      clear hi226_0 hl226_0;replace p226 := eq_true p226;replace q226 := eq_true q226;have p227 : 0 ≤ (x7_4 : Int) := of_decide_eq_true (by first | (with_reducible assumption) | assumption)
                      have q227 : x7_4 < ((rd_L3 l1_1 x6_3).length : Int) := of_decide_eq_true (by first | (with_reducible assumption) | assumption)
                      obtain ⟨ad227, e227, hx227_0, hx227_1⟩ := at_T41 HR226_0.out x7_4 p227 q227
                      cases e227;replace hx227_0 := (HB.out.cell (World.block_lt_of_cell? w _ hx227_0)).trans hx227_0
                      replace hx227_1 := (HB.out.cell (World.block_lt_of_cell? w _ hx227_1)).trans hx227_1
                      replace p227 := eq_true p227;replace q227 := eq_true q227;go_wp2
                      repeat (go_quiet (fail); try go_wp2)
                      go_roundg k4
                      case measure => have := HJ2.out; have := HK2.out; have := HK3.out; have := HK4.out; omega
                      case rel => exact ⟨(wrap64 (x7_4 + 1)), (by first | rfl | (simp; done) | (simp [*]; done)), H', ⟨by have := HJ2.out; have := HK2.out; have := HK3.out; have := HK4.out; omega⟩, ⟨by (with_reducible repeat (first | refine blk_drewN ?_ _ | refine blk_drew ?_ | refine blk_alloc ?_ _)); exact BK217.out⟩, ⟨by (with_reducible repeat (first | refine blk_drewN ?_ _ | refine blk_drew ?_ | refine blk_alloc ?_ _)); exact BK218.out⟩, ⟨by repeat (first | (with_reducible first | exact HB.out | apply below_alloc | apply pw_below_drewN | apply below_drew1 | refine below_set ?_ GE217.out | refine below_set ?_ GE218.out) | exact HB.out)⟩⟩
                    ·rw [if_neg c38] at H
                     exact absurd H (by simp)
                   ·rw [if_neg c37] at H
                    exact absurd H (by simp)
                  ·rw [if_neg c36] at H
                   exact absurd H (by simp)
                 ·rw [if_neg c35] at H
                  have c35b0 : decide (x7_4 < ((rd_L3 l0_1 x6_3).length : Int)) = false := decide_eq_false c35
                  clear c35;have H' := Aside0.mk H
                  clear H;have hnb46 := NB217_218.out
                  have hnc46 := NB218_217.out
                  have hcz47_0 : wr.cell? ⟨gb217, 0, none⟩ = some (.slice A0_0 l0_0.length c0_0) := (blk_cell BK217.out 0).trans rfl
                  have hcz47_1 : wr.cell? ⟨gb217, 1, none⟩ = some (.slice (some ad221) l0_1.length c0_1) := (blk_cell BK217.out 1).trans rfl
                  have hfz47_0 := blk_frozen BK217.out 0
                  have hfz47_1 := blk_frozen BK217.out 1
                  have p223 : 0 ≤ (x6_3 : Int) := of_decide_eq_true (by first | (with_reducible assumption) | assumption)
                  have q223 : x6_3 < (l0_1.length : Int) := of_decide_eq_true (by first | (with_reducible assumption) | assumption)
                  obtain ⟨ad223, A223_0, c223_0, e223, hx223_0, hl223_0, hi223_0⟩ := at_L3 HR0_1.out x6_3 p223 q223
                  obtain rfl : ad221 = ad223 := (by injection e223)
                  replace hx223_0 := (HB.out.cell (World.block_lt_of_cell? w _ hx223_0)).trans hx223_0
                  have HR223_0 := Aside0.mk hi223_0
                  have HC223_0 := Aside0.mk hl223_0
                  clear hi223_0 hl223_0;replace p223 := eq_true p223;replace q223 := eq_true q223;go_wp2
                  repeat (go_quiet (fail); try go_wp2)
                  go_roundg k4
                  case measure => have := HJ2.out; have := HK2.out; have := HK3.out; have := HK4.out; omega
                  case rel => exact ⟨(wrap64 (x6_3 + 1)), (by first | rfl | (simp; done) | (simp [*]; done)), H', ⟨by have := HJ2.out; have := HK2.out; have := HK3.out; have := HK4.out; omega⟩, ⟨by (with_reducible repeat (first | refine blk_drewN ?_ _ | refine blk_drew ?_ | refine blk_alloc ?_ _)); exact BK217.out⟩, ⟨by (with_reducible repeat (first | refine blk_drewN ?_ _ | refine blk_drew ?_ | refine blk_alloc ?_ _)); exact BK218.out⟩, ⟨by repeat (first | (with_reducible first | exact HB.out | apply below_alloc | apply pw_below_drewN | apply below_drew1 | refine below_set ?_ GE217.out | refine below_set ?_ GE218.out) | exact HB.out)⟩⟩
                ·rw [if_neg c34] at H
                 exact absurd H (by simp)
               ·rw [if_neg c33] at H
                exact absurd H (by simp)
            ·rw [if_neg c29] at H
             have c29b0 : (((rd_L3 l0_1 x6_3).length : Int) == ((rd_L3 l1_1 x6_3).length : Int)) = false := beq_eq_false_iff_ne.mpr c29
             have c29b1 : (((rd_L3 l0_1 x6_3).length : Int) != ((rd_L3 l1_1 x6_3).length : Int)) = true := bne_iff_ne.mpr c29
             have c29b2 : ((rd_L3 l0_1 x6_3).length == (rd_L3 l1_1 x6_3).length) = false := by first | simpa using c29 | (simp at c29 ⊢; omega)
             obtain rfl := Option.some.inj H
             have hnb48 := NB217_218.out
             have hnc48 := NB218_217.out
             have hcz49_0 : wr.cell? ⟨gb217, 0, none⟩ = some (.slice A0_0 l0_0.length c0_0) := (blk_cell BK217.out 0).trans rfl
             have hcz49_1 : wr.cell? ⟨gb217, 1, none⟩ = some (.slice A0_1 l0_1.length c0_1) := (blk_cell BK217.out 1).trans rfl
             have hfz49_0 := blk_frozen BK217.out 0
             have hfz49_1 := blk_frozen BK217.out 1
             have p221 : 0 ≤ (x6_3 : Int) := of_decide_eq_true (by first | (with_reducible assumption) | assumption)
             have q221 : x6_3 < (l0_1.length : Int) := of_decide_eq_true (by first | (with_reducible assumption) | assumption)
             obtain ⟨ad221, A221_0, c221_0, e221, hx221_0, hl221_0, hi221_0⟩ := at_L3 HR0_1.out x6_3 p221 q221
             cases e221;replace hx221_0 := (HB.out.cell (World.block_lt_of_cell? w _ hx221_0)).trans hx221_0
             have HR221_0 := Aside0.mk hi221_0
             have HC221_0 := Aside0.mk hl221_0
             clear hi221_0 hl221_0;replace p221 := eq_true p221;replace q221 := eq_true q221;have hcz50_0 : wr.cell? ⟨gb218, 0, none⟩ = some (.slice A1_0 l1_0.length c1_0) := (blk_cell BK218.out 0).trans rfl
             have hcz50_1 : wr.cell? ⟨gb218, 1, none⟩ = some (.slice A1_1 l1_1.length c1_1) := (blk_cell BK218.out 1).trans rfl
             have hfz50_0 := blk_frozen BK218.out 0
             have hfz50_1 := blk_frozen BK218.out 1
             have p222 : 0 ≤ (x6_3 : Int) := of_decide_eq_true (by first | (with_reducible assumption) | assumption)
             have q222 : x6_3 < (l1_1.length : Int) := of_decide_eq_true (by first | (with_reducible assumption) | assumption)
             obtain ⟨ad222, A222_0, c222_0, e222, hx222_0, hl222_0, hi222_0⟩ := at_L3 HR1_1.out x6_3 p222 q222
             cases e222;replace hx222_0 := (HB.out.cell (World.block_lt_of_cell? w _ hx222_0)).trans hx222_0
             have HR222_0 := Aside0.mk hi222_0
             have HC222_0 := Aside0.mk hl222_0
             clear hi222_0 hl222_0;replace p222 := eq_true p222;replace q222 := eq_true q222;go_wp2
             repeat (go_quiet (fail); try go_wp2)
             go_ret
             exact ⟨by first | rfl | (simp [errW_none, errW_some] <;> rfl) | (simp [*, errW_none, errW_some] <;> rfl), by repeat (first | (with_reducible first | exact HB.out | apply below_alloc | apply pw_below_drewN | apply below_drew1 | refine below_set ?_ GE217.out | refine below_set ?_ GE218.out) | exact HB.out)⟩
           ·rw [if_neg c28] at H
            exact absurd H (by simp)
          ·rw [if_neg c27] at H
           exact absurd H (by simp)
         ·rw [if_neg c26] at H
          have c26b0 : decide (x6_3 < (l0_1.length : Int)) = false := decide_eq_false c26
          clear c26;obtain rfl := Option.some.inj H
          have hnb51 := NB217_218.out
          have hnc51 := NB218_217.out
          have hcz52_0 : wr.cell? ⟨gb217, 0, none⟩ = some (.slice A0_0 l0_0.length c0_0) := (blk_cell BK217.out 0).trans rfl
          have hcz52_1 : wr.cell? ⟨gb217, 1, none⟩ = some (.slice A0_1 l0_1.length c0_1) := (blk_cell BK217.out 1).trans rfl
          have hfz52_0 := blk_frozen BK217.out 0
          have hfz52_1 := blk_frozen BK217.out 1
          go_wp2
          repeat (go_quiet (fail); try go_wp2)
          go_ret
          exact ⟨by first | rfl | (simp [errW_none, errW_some] <;> rfl) | (simp [*, errW_none, errW_some] <;> rfl), by repeat (first | (with_reducible first | exact HB.out | apply below_alloc | apply pw_below_drewN | apply below_drew1 | refine below_set ?_ GE217.out | refine below_set ?_ GE218.out) | exact HB.out)⟩
end Go.Proofs.YtinfejpkjddbiaaDoor.P
