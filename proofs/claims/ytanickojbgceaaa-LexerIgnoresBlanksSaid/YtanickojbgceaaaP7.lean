-- made by a program of mine (wip/tools/pp.py over the kit's print)
import Derived.Test.YtanickojbgceaaaP0
import Derived.Test.YtanickojbgceaaaP4
import Derived.Test.YtanickojbgceaaaP5
import Derived.Test.YtanickojbgceaaaP6
namespace Go.Proofs.Ytanickojbgceaaa.P
open Go.RowKit Go.Proofs.YtanickojbgceaaaW.PrintWords Go.Proofs.YtanickojbgceaaaW.PrintLast Go.Proofs.YtanickojbgceaaaW.PrintMore
attribute [local go_sem] max2_int min2_int max_two min_two max_three min_three max_four min_four   -- for this text's walks alone
set_option linter.unusedVariables false
set_option linter.unusedSimpArgs false

/-! ### selfstabref04_token: function 24 -/
mutual
def selfstabref04_token.l0 : Nat → ByteArray → Int → Int → Int → Int → Int → Option (Int × Int × Int × Int × Int)
  | 0, _, _, _, _, _, _ => none
  | k + 1, x0, x1, x144000, x144001, x144002, x144003 => if x144002 < (x0.size : Int) then (if 0 ≤ x144002 then ((selfstabref04_inner.f (bt x0 x144002)).bind fun t145 => (selfstabref04_token.j1 k x0 x1 t145 x144000 x144001 x144002 x144003)) else (none)) else (selfstabref04_token.j1 k x0 x1 false x144000 x144001 x144002 x144003)
def selfstabref04_token.j1 : Nat → ByteArray → Int → Bool → Int → Int → Int → Int → Option (Int × Int × Int × Int × Int)
  | 0, _, _, _, _, _, _, _ => none
  | k + 1, x0, x1, x31, x144000, x144001, x144002, x144003 => if x31 = true then (selfstabref04_token.l0 k x0 x1 x144000 x144001 (wrap64 (x144002 + 1)) x144003) else (if (wrap64 (x144002 - x1)) > 24 then (some (0, 0, 0, 0, 5)) else (some (x144000, x144001, x144002, x144003, 0)))
def selfstabref04_token.l1 : Nat → ByteArray → Int → Int → Int → Int → Int → Option (Int × Int × Int × Int × Int)
  | 0, _, _, _, _, _, _ => none
  | k + 1, x0, x1, x144000, x144001, x144002, x144003 => if x144002 < (x0.size : Int) then (if 0 ≤ x144002 then ((selfstabref04_Digit.f (bt x0 x144002)).bind fun t147 => (selfstabref04_token.j3 k x0 x1 t147 x144000 x144001 x144002 x144003)) else (none)) else (selfstabref04_token.j3 k x0 x1 false x144000 x144001 x144002 x144003)
def selfstabref04_token.j3 : Nat → ByteArray → Int → Bool → Int → Int → Int → Int → Option (Int × Int × Int × Int × Int)
  | 0, _, _, _, _, _, _, _ => none
  | k + 1, x0, x1, x59, x144000, x144001, x144002, x144003 => if x59 = true then (selfstabref04_token.l1 k x0 x1 x144000 x144001 (wrap64 (x144002 + 1)) x144003) else (if 0 ≤ x1 then (if x1 ≤ x144002 then (if x144002 ≤ (x0.size : Int) then ((selfstabref04_number.f k (x0.extract (x1 : Int).toNat (x144002 : Int).toNat)).bind fun bt148 => (if bt148.2 = true then (some (x144000, x144001, x144002, bt148.1, 0)) else (some (0, 0, 0, 0, 2)))) else (none)) else (none)) else (none))
end
def selfstabref04_token.f (k : Nat) (a0 : ByteArray) (a1 : Int) : Option (Int × Int × Int × Int × Int) := if 0 ≤ a1 then (if a1 < (a0.size : Int) then ((selfstabref04_Letter.f (bt a0 a1)).bind fun t144 => (if t144 = true then (selfstabref04_token.l0 k a0 a1 1 a1 (wrap64 (a1 + 1)) 0) else ((selfstabref04_Digit.f (bt a0 a1)).bind fun t146 => (if t146 = true then (selfstabref04_token.l1 k a0 a1 2 a1 (wrap64 (a1 + 1)) 0) else ((selfstabref04_sign.f k a0 a1).bind fun t150 => (if t150 > 0 then ((selfstabref04_sign.f k a0 a1).bind fun t150 => (some (3, a1, wrap64 (a1 + t150), 0, 0))) else (some (0, 0, 0, 0, 4)))))))) else (none)) else (none)
theorem selfstabref04_token.mono_l : ∀ k, (∀ y0 y1 y2 y3 y4 y5, LeO (selfstabref04_token.l0 k y0 y1 y2 y3 y4 y5) (selfstabref04_token.l0 (k + 1) y0 y1 y2 y3 y4 y5)) ∧ (∀ y0 y1 y2 y3 y4 y5 y6, LeO (selfstabref04_token.j1 k y0 y1 y2 y3 y4 y5 y6) (selfstabref04_token.j1 (k + 1) y0 y1 y2 y3 y4 y5 y6)) ∧ (∀ y0 y1 y2 y3 y4 y5, LeO (selfstabref04_token.l1 k y0 y1 y2 y3 y4 y5) (selfstabref04_token.l1 (k + 1) y0 y1 y2 y3 y4 y5)) ∧ (∀ y0 y1 y2 y3 y4 y5 y6, LeO (selfstabref04_token.j3 k y0 y1 y2 y3 y4 y5 y6) (selfstabref04_token.j3 (k + 1) y0 y1 y2 y3 y4 y5 y6))
  | 0 => ⟨fun _ _ _ _ _ _ r h => by simp [selfstabref04_token.l0] at h, fun _ _ _ _ _ _ _ r h => by simp [selfstabref04_token.j1] at h, fun _ _ _ _ _ _ r h => by simp [selfstabref04_token.l1] at h, fun _ _ _ _ _ _ _ r h => by simp [selfstabref04_token.j3] at h⟩
  | k + 1 => by
    obtain ⟨ih0, ih1, ih2, ih3⟩ := selfstabref04_token.mono_l k
    refine ⟨?_, ?_, ?_, ?_⟩
    · intro y0 y1 y2 y3 y4 y5
      unfold selfstabref04_token.l0
      repeat' first
      | (with_reducible exact ih0 _ _ _ _ _ _)
      | (with_reducible exact ih1 _ _ _ _ _ _ _)
      | (with_reducible exact ih2 _ _ _ _ _ _)
      | (with_reducible exact ih3 _ _ _ _ _ _ _)
      | (with_reducible exact selfstabref04_number.mono _ _)
      | (with_reducible exact selfstabref04_sign.mono _ _ _)
      | (with_reducible exact LeO.refl _)
      | (with_reducible exact LeO.none _)
      | (with_reducible refine LeO.ite ?_ ?_)
      | (with_reducible refine LeO.bind ?_ (fun _ => ?_))
      | exact ih0 _ _ _ _ _ _
      | exact ih1 _ _ _ _ _ _ _
      | exact ih2 _ _ _ _ _ _
      | exact ih3 _ _ _ _ _ _ _
      | exact selfstabref04_number.mono _ _
      | exact selfstabref04_sign.mono _ _ _
      | exact LeO.none _
      | refine LeO.ite ?_ ?_
      | refine LeO.bind ?_ (fun _ => ?_)
    · intro y0 y1 y2 y3 y4 y5 y6
      unfold selfstabref04_token.j1
      repeat' first
      | (with_reducible exact ih0 _ _ _ _ _ _)
      | (with_reducible exact ih1 _ _ _ _ _ _ _)
      | (with_reducible exact ih2 _ _ _ _ _ _)
      | (with_reducible exact ih3 _ _ _ _ _ _ _)
      | (with_reducible exact selfstabref04_number.mono _ _)
      | (with_reducible exact selfstabref04_sign.mono _ _ _)
      | (with_reducible exact LeO.refl _)
      | (with_reducible exact LeO.none _)
      | (with_reducible refine LeO.ite ?_ ?_)
      | (with_reducible refine LeO.bind ?_ (fun _ => ?_))
      | exact ih0 _ _ _ _ _ _
      | exact ih1 _ _ _ _ _ _ _
      | exact ih2 _ _ _ _ _ _
      | exact ih3 _ _ _ _ _ _ _
      | exact selfstabref04_number.mono _ _
      | exact selfstabref04_sign.mono _ _ _
      | exact LeO.none _
      | refine LeO.ite ?_ ?_
      | refine LeO.bind ?_ (fun _ => ?_)
    · intro y0 y1 y2 y3 y4 y5
      unfold selfstabref04_token.l1
      repeat' first
      | (with_reducible exact ih0 _ _ _ _ _ _)
      | (with_reducible exact ih1 _ _ _ _ _ _ _)
      | (with_reducible exact ih2 _ _ _ _ _ _)
      | (with_reducible exact ih3 _ _ _ _ _ _ _)
      | (with_reducible exact selfstabref04_number.mono _ _)
      | (with_reducible exact selfstabref04_sign.mono _ _ _)
      | (with_reducible exact LeO.refl _)
      | (with_reducible exact LeO.none _)
      | (with_reducible refine LeO.ite ?_ ?_)
      | (with_reducible refine LeO.bind ?_ (fun _ => ?_))
      | exact ih0 _ _ _ _ _ _
      | exact ih1 _ _ _ _ _ _ _
      | exact ih2 _ _ _ _ _ _
      | exact ih3 _ _ _ _ _ _ _
      | exact selfstabref04_number.mono _ _
      | exact selfstabref04_sign.mono _ _ _
      | exact LeO.none _
      | refine LeO.ite ?_ ?_
      | refine LeO.bind ?_ (fun _ => ?_)
    · intro y0 y1 y2 y3 y4 y5 y6
      unfold selfstabref04_token.j3
      repeat' first
      | (with_reducible exact ih0 _ _ _ _ _ _)
      | (with_reducible exact ih1 _ _ _ _ _ _ _)
      | (with_reducible exact ih2 _ _ _ _ _ _)
      | (with_reducible exact ih3 _ _ _ _ _ _ _)
      | (with_reducible exact selfstabref04_number.mono _ _)
      | (with_reducible exact selfstabref04_sign.mono _ _ _)
      | (with_reducible exact LeO.refl _)
      | (with_reducible exact LeO.none _)
      | (with_reducible refine LeO.ite ?_ ?_)
      | (with_reducible refine LeO.bind ?_ (fun _ => ?_))
      | exact ih0 _ _ _ _ _ _
      | exact ih1 _ _ _ _ _ _ _
      | exact ih2 _ _ _ _ _ _
      | exact ih3 _ _ _ _ _ _ _
      | exact selfstabref04_number.mono _ _
      | exact selfstabref04_sign.mono _ _ _
      | exact LeO.none _
      | refine LeO.ite ?_ ?_
      | refine LeO.bind ?_ (fun _ => ?_)
theorem selfstabref04_token.mono : ∀ a0 a1 k, LeO (selfstabref04_token.f k a0 a1) (selfstabref04_token.f (k + 1) a0 a1) := by
  intro a0 a1 k
  obtain ⟨ih0, ih1, ih2, ih3⟩ := selfstabref04_token.mono_l k
  unfold selfstabref04_token.f
  repeat' first
      | (with_reducible exact ih0 _ _ _ _ _ _)
      | (with_reducible exact ih1 _ _ _ _ _ _ _)
      | (with_reducible exact ih2 _ _ _ _ _ _)
      | (with_reducible exact ih3 _ _ _ _ _ _ _)
      | (with_reducible exact selfstabref04_number.mono _ _)
      | (with_reducible exact selfstabref04_sign.mono _ _ _)
      | (with_reducible exact LeO.refl _)
      | (with_reducible exact LeO.none _)
      | (with_reducible refine LeO.ite ?_ ?_)
      | (with_reducible refine LeO.bind ?_ (fun _ => ?_))
      | exact ih0 _ _ _ _ _ _
      | exact ih1 _ _ _ _ _ _ _
      | exact ih2 _ _ _ _ _ _
      | exact ih3 _ _ _ _ _ _ _
      | exact selfstabref04_number.mono _ _
      | exact selfstabref04_sign.mono _ _ _
      | exact LeO.none _
      | refine LeO.ite ?_ ?_
      | refine LeO.bind ?_ (fun _ => ?_)
set_option maxHeartbeats 6000000 in
set_option maxRecDepth 100000 in
theorem selfstabref04_token.calls (k : Nat) (a0 : ByteArray) (a1 : Int) (r1 : Int) (r2 : Int) (r3 : Int) (r4 : Int) (r5 : Int) (w : World) (h : selfstabref04_token.f k a0 a1 = some (r1, r2, r3, r4, r5)) :
    Calls Try.prog 24 #[.string a0, .int .i64 a1] w fun e w' => e = .returned (.tuple #[.agg #[.int .i64 r1, .int .i64 r2, .int .i64 r3, .int .i64 r4], .int .i64 r5]) ∧ Below w.heap.size w w' := by
  have hu32 := Try.underlying32
  have HB := Aside0.mk (Below.refl w.heap.size w)
  have H : (if 0 ≤ a1 then (if a1 < (a0.size : Int) then ((selfstabref04_Letter.f (bt a0 a1)).bind fun t144 => (if t144 = true then (selfstabref04_token.l0 k a0 a1 1 a1 (wrap64 (a1 + 1)) 0) else ((selfstabref04_Digit.f (bt a0 a1)).bind fun t146 => (if t146 = true then (selfstabref04_token.l1 k a0 a1 2 a1 (wrap64 (a1 + 1)) 0) else ((selfstabref04_sign.f k a0 a1).bind fun t150 => (if t150 > 0 then ((selfstabref04_sign.f k a0 a1).bind fun t150 => (some (3, a1, wrap64 (a1 + t150), 0, 0))) else (some (0, 0, 0, 0, 4)))))))) else (none)) else (none)) = some (r1, r2, r3, r4, r5) := h
  clear h
  by_cases c3 : 0 ≤ a1
  · rw [if_pos c3] at H
    have c3b0 : decide (0 ≤ a1) = true := decide_eq_true c3
    clear c3
    by_cases c4 : a1 < (a0.size : Int)
    · rw [if_pos c4] at H
      have c4b0 : decide (a1 < (a0.size : Int)) = true := decide_eq_true c4
      clear c4
      replace H := Option.bind_eq_some_iff.mp H
      obtain ⟨t144, A60, H⟩ := H
      replace H : (if t144 = true then (selfstabref04_token.l0 k a0 a1 1 a1 (wrap64 (a1 + 1)) 0) else ((selfstabref04_Digit.f (bt a0 a1)).bind fun t146 => (if t146 = true then (selfstabref04_token.l1 k a0 a1 2 a1 (wrap64 (a1 + 1)) 0) else ((selfstabref04_sign.f k a0 a1).bind fun t150 => (if t150 > 0 then ((selfstabref04_sign.f k a0 a1).bind fun t150 => (some (3, a1, wrap64 (a1 + t150), 0, 0))) else (some (0, 0, 0, 0, 4))))))) = some (r1, r2, r3, r4, r5) := H
      have A6 := Aside0.mk A60
      clear A60
      by_cases c7 : t144 = true
      · subst c7
        have H1 : (selfstabref04_token.l0 k a0 a1 1 a1 (wrap64 (a1 + 1)) 0) = some (r1, r2, r3, r4, r5) := by rw [if_pos rfl] at H; exact H
        clear H
        have H := H1
        clear H1
        have H' := Aside0.mk H
        clear H
        go_enter Try.func24, Try.ntmps24
        go_wp2_with (first | ((with_reducible refine gate_dst (N := 4) rfl ?_); refine box_event ?hg (N := 4) ?hd (cs := #[.int .i64 0, .int .i64 0, .int .i64 0, .int .i64 0]) (t := 32) ?hr ?_; (case hd => rfl); (case hg => rfl); (case hr => first | (go_simp; done) | (go_simp; rfl)); intro gb142 hg w8 hbox hb; have n0_ := Aside0.mk (below_step (by repeat (first | (with_reducible first | exact HB.out | apply below_alloc | apply pw_below_drewN | apply below_drew1) | exact HB.out)) hb); have n1_ := Aside0.mk (hbox); have n2_ := Aside0.mk ((by rw [hg]; exact (below_size (by repeat (first | (with_reducible first | exact HB.out | apply below_alloc | apply pw_below_drewN | apply below_drew1) | exact HB.out))) : w.heap.size ≤ gb142)); have n3_ := Aside0.mk ((by rw [hg]; exact (below_size (by repeat (first | (with_reducible first | exact HB.out | apply below_alloc | apply pw_below_drewN | apply below_drew1) | exact HB.out))) : w.heap.size ≤ gb142)); clear HB; have HB := n0_; have BK142 := n1_; have GW142 := n2_; have GE142 := n3_; clear n0_ n1_ n2_ n3_; clear hb hbox hg) | ((with_reducible refine gate_dst (N := 6) rfl ?_); refine box_event ?hg (N := 6) ?hd (cs := #[.int .i64 0, .int .i64 0, .int .i64 0, .int .i64 0]) (t := 32) ?hr ?_; (case hd => rfl); (case hg => rfl); (case hr => first | (go_simp; done) | (go_simp; rfl)); intro gb143 hg w9 hbox hb; have n0_ := Aside0.mk (blk_below (g := gb142) (o := .cells #[.int .i64 0, .int .i64 0, .int .i64 0, .int .i64 0] 32 (0, 0)) (by (with_reducible repeat (first | refine blk_drewN ?_ _ | refine blk_drew ?_ | refine blk_alloc ?_ _)); exact BK142.out) hb); have n1_ := Aside0.mk (below_step (by repeat (first | (with_reducible first | exact HB.out | apply below_alloc | apply pw_below_drewN | apply below_drew1 | refine below_set ?_ GE142.out) | exact HB.out)) hb); have n2_ := Aside0.mk (hbox); have n3_ := Aside0.mk ((by rw [hg]; exact (below_size (by repeat (first | (with_reducible first | exact HB.out | apply below_alloc | apply pw_below_drewN | apply below_drew1 | refine below_set ?_ GE142.out) | exact HB.out))) : w.heap.size ≤ gb143)); have n4_ := Aside0.mk ((by rw [hg]; exact (below_size (by repeat (first | (with_reducible first | exact HB.out | apply below_alloc | apply pw_below_drewN | apply below_drew1 | refine below_set ?_ GE142.out) | exact HB.out))) : w.heap.size ≤ gb143)); have n5_ := Aside0.mk ((by rw [hg]; exact Nat.ne_of_lt (blk_lt (g := gb142) (o := .cells #[.int .i64 0, .int .i64 0, .int .i64 0, .int .i64 0] 32 (0, 0)) (by (with_reducible repeat (first | refine blk_drewN ?_ _ | refine blk_drew ?_ | refine blk_alloc ?_ _)); exact BK142.out)) : gb142 ≠ gb143)); have n6_ := Aside0.mk ((by rw [hg]; exact Nat.ne_of_gt (blk_lt (g := gb142) (o := .cells #[.int .i64 0, .int .i64 0, .int .i64 0, .int .i64 0] 32 (0, 0)) (by (with_reducible repeat (first | refine blk_drewN ?_ _ | refine blk_drew ?_ | refine blk_alloc ?_ _)); exact BK142.out)) : gb143 ≠ gb142)); clear BK142; clear HB; have BK142 := n0_; have HB := n1_; have BK143 := n2_; have GW143 := n3_; have GE143 := n4_; have NB142_143 := n5_; have NB143_142 := n6_; clear n0_ n1_ n2_ n3_ n4_ n5_ n6_; clear hb hbox hg; have hnb10 := NB143_142.out; have hnc10 := NB142_143.out; have hcz11_0 : w9.cell? ⟨gb143, 0, none⟩ = some (.int .i64 0) := (blk_cell BK143.out 0).trans rfl; have hcz11_1 : w9.cell? ⟨gb143, 1, none⟩ = some (.int .i64 0) := (blk_cell BK143.out 1).trans rfl; have hcz11_2 : w9.cell? ⟨gb143, 2, none⟩ = some (.int .i64 0) := (blk_cell BK143.out 2).trans rfl; have hcz11_3 : w9.cell? ⟨gb143, 3, none⟩ = some (.int .i64 0) := (blk_cell BK143.out 3).trans rfl; have hfz11_0 := blk_frozen BK143.out 0; have hfz11_1 := blk_frozen BK143.out 1; have hfz11_2 := blk_frozen BK143.out 2; have hfz11_3 := blk_frozen BK143.out 3; have p5 : 0 ≤ (a1 : Int) := of_decide_eq_true (by first | (with_reducible assumption) | assumption); have q5 : a1 < (a0.size : Int) := of_decide_eq_true (by first | (with_reducible assumption) | assumption); have hx5 := bt_at a0 a1; replace p5 := eq_true p5; replace q5 := eq_true q5) | ((with_reducible refine gate_callee (f := 29) rfl ?_); refine goesL_ (some 18) rfl rfl Try.func29 (by kernel_rfl) rfl #[.int .u8 (bt a0 a1)] rfl (by (try simp only [List.map_toArray, List.map_cons, List.map_nil]); first | done | rfl | (simp only [List.length_drop, List.length_take]; rfl)) ?_; (with_reducible refine (selfstabref04_Letter.calls (bt a0 a1) true _ A6.out).mono ?_); rintro e w12 ⟨rfl, hb⟩; refine ⟨_, rfl, ?_⟩; have n0_ := Aside0.mk (blk_below (g := gb142) (o := .cells #[.int .i64 0, .int .i64 0, .int .i64 0, .int .i64 0] 32 (0, 0)) (by (with_reducible repeat (first | refine blk_drewN ?_ _ | refine blk_drew ?_ | refine blk_alloc ?_ _)); refine blk_far ?_ NB142_143.out _; (with_reducible repeat (first | refine blk_drewN ?_ _ | refine blk_drew ?_ | refine blk_alloc ?_ _)); refine blk_far ?_ NB142_143.out _; (with_reducible repeat (first | refine blk_drewN ?_ _ | refine blk_drew ?_ | refine blk_alloc ?_ _)); refine blk_far ?_ NB142_143.out _; (with_reducible repeat (first | refine blk_drewN ?_ _ | refine blk_drew ?_ | refine blk_alloc ?_ _)); refine blk_far ?_ NB142_143.out _; (with_reducible repeat (first | refine blk_drewN ?_ _ | refine blk_drew ?_ | refine blk_alloc ?_ _)); exact BK142.out) hb); have n1_ := Aside0.mk (blk_below (g := gb143) (o := .cells #[.int .i64 0, .int .i64 a1, .int .i64 (wrap64 (a1 + 1)), .int .i64 0] 32 (0, 0)) (by (with_reducible repeat (first | refine blk_drewN ?_ _ | refine blk_drew ?_ | refine blk_alloc ?_ _)); refine blk_put (cs := #[.int .i64 0, .int .i64 a1, .int .i64 (wrap64 (a1 + 1)), .int .i64 0]) ?_ 3 _ rfl; (with_reducible repeat (first | refine blk_drewN ?_ _ | refine blk_drew ?_ | refine blk_alloc ?_ _)); refine blk_put (cs := #[.int .i64 0, .int .i64 a1, .int .i64 0, .int .i64 0]) ?_ 2 _ rfl; (with_reducible repeat (first | refine blk_drewN ?_ _ | refine blk_drew ?_ | refine blk_alloc ?_ _)); refine blk_put (cs := #[.int .i64 0, .int .i64 0, .int .i64 0, .int .i64 0]) ?_ 1 _ rfl; (with_reducible repeat (first | refine blk_drewN ?_ _ | refine blk_drew ?_ | refine blk_alloc ?_ _)); refine blk_put (cs := #[.int .i64 0, .int .i64 0, .int .i64 0, .int .i64 0]) ?_ 0 _ rfl; (with_reducible repeat (first | refine blk_drewN ?_ _ | refine blk_drew ?_ | refine blk_alloc ?_ _)); exact BK143.out) hb); have n2_ := Aside0.mk (below_step (by repeat (first | (with_reducible first | exact HB.out | apply below_alloc | apply pw_below_drewN | apply below_drew1 | refine below_set ?_ GE142.out | refine below_set ?_ GE143.out) | exact HB.out)) hb); clear BK142; clear BK143; clear HB; have BK142 := n0_; have BK143 := n1_; have HB := n2_; clear n0_ n1_ n2_; (try clear hb); (try clear hb2); (try clear hk); (try clear hi); have hcz13_0 : w12.cell? ⟨gb143, 0, none⟩ = some (.int .i64 0) := (blk_cell BK143.out 0).trans rfl; have hcz13_1 : w12.cell? ⟨gb143, 1, none⟩ = some (.int .i64 a1) := (blk_cell BK143.out 1).trans rfl; have hcz13_2 : w12.cell? ⟨gb143, 2, none⟩ = some (.int .i64 (wrap64 (a1 + 1))) := (blk_cell BK143.out 2).trans rfl; have hcz13_3 : w12.cell? ⟨gb143, 3, none⟩ = some (.int .i64 0) := (blk_cell BK143.out 3).trans rfl; have hfz13_0 := blk_frozen BK143.out 0; have hfz13_1 := blk_frozen BK143.out 1; have hfz13_2 := blk_frozen BK143.out 2; have hfz13_3 := blk_frozen BK143.out 3))
        go_loopg [] k (fun kq w' => ∃ (x144002_1 : Int), Aside0 (selfstabref04_token.l0 kq a0 a1 1 a1 x144002_1 0 = some (r1, r2, r3, r4, r5)) ∧ Aside0 (kq ≤ k) ∧ Aside0 (w'.heap[gb142]? = some (.cells #[.int .i64 0, .int .i64 0, .int .i64 0, .int .i64 0] 32 (0, 0))) ∧ Aside0 (w'.heap[gb143]? = some (.cells #[.int .i64 1, .int .i64 a1, .int .i64 x144002_1, .int .i64 0] 32 (0, 0))) ∧ Aside0 (Below w.heap.size w w'))
        case atStart => exact ⟨(wrap64 (a1 + 1)), H', ⟨Nat.le_refl _⟩, ⟨by (with_reducible repeat (first | refine blk_drewN ?_ _ | refine blk_drew ?_ | refine blk_alloc ?_ _)); refine blk_far ?_ NB142_143.out _; (with_reducible repeat (first | refine blk_drewN ?_ _ | refine blk_drew ?_ | refine blk_alloc ?_ _)); exact BK142.out⟩, ⟨by (with_reducible repeat (first | refine blk_drewN ?_ _ | refine blk_drew ?_ | refine blk_alloc ?_ _)); refine blk_put (cs := #[.int .i64 0, .int .i64 a1, .int .i64 (wrap64 (a1 + 1)), .int .i64 0]) ?_ 0 _ rfl; (with_reducible repeat (first | refine blk_drewN ?_ _ | refine blk_drew ?_ | refine blk_alloc ?_ _)); exact BK143.out⟩, ⟨by repeat (first | (with_reducible first | exact HB.out | apply below_alloc | apply pw_below_drewN | apply below_drew1 | refine below_set ?_ GE142.out | refine below_set ?_ GE143.out) | exact HB.out)⟩⟩
        case round =>
          clear H'
          try clear c1
          try clear c2
          try clear p2
          try clear c3
          try clear c3b0
          try clear c4
          try clear c4b0
          try clear p5
          try clear q5
          try clear hx5
          try clear p6
          try clear c7
          try clear c10
          try clear hcz11_0
          try clear hcz11_1
          try clear hcz11_2
          try clear hcz11_3
          try clear hcz13_0
          try clear hcz13_1
          try clear hcz13_2
          try clear hcz13_3
          try clear hfz11_0
          try clear hfz11_1
          try clear hfz11_2
          try clear hfz11_3
          try clear hfz13_0
          try clear hfz13_1
          try clear hfz13_2
          try clear hfz13_3
          try clear p5
          try clear q5
          obtain ⟨x144002_1, HA, HK1, BK142, BK143, HB⟩ := hrel
          cases gk with
          | zero => exact absurd HA.out (by simp [selfstabref04_token.l0])
          | succ k1 =>
            have H := HA.out
            clear HA
            simp only [selfstabref04_token.l0] at H
            have HC14 := Aside0.mk H
            clear H
            go_upto_region 5 with (fail)
            go_cut [31] (fun v31 wc => ∃ (kq : Nat) (x31_13 : Bool), v31 = .bool x31_13 ∧ Aside0 (selfstabref04_token.j1 kq a0 a1 x31_13 1 a1 x144002_1 0 = some (r1, r2, r3, r4, r5)) ∧ Aside0 (kq ≤ k1) ∧ Aside0 (wc.heap[gb142]? = some (.cells #[.int .i64 0, .int .i64 0, .int .i64 0, .int .i64 0] 32 (0, 0))) ∧ Aside0 (wc.heap[gb143]? = some (.cells #[.int .i64 1, .int .i64 a1, .int .i64 x144002_1, .int .i64 0] 32 (0, 0))) ∧ Aside0 (Below w.heap.size w wc))
            case first =>
              have H := HC14.out
              clear HC14
              by_cases c15 : x144002_1 < (a0.size : Int)
              · rw [if_pos c15] at H
                have c15b0 : decide (x144002_1 < (a0.size : Int)) = true := decide_eq_true c15
                clear c15
                (first | rw [c15b0] | (simp only [i64_w, i32_w]; rw [c15b0]) | skip)
                by_cases c16 : 0 ≤ x144002_1
                · rw [if_pos c16] at H
                  have c16b0 : decide (0 ≤ x144002_1) = true := decide_eq_true c16
                  clear c16
                  replace H := Option.bind_eq_some_iff.mp H
                  obtain ⟨t145, A180, H⟩ := H
                  replace H : (selfstabref04_token.j1 k1 a0 a1 t145 1 a1 x144002_1 0) = some (r1, r2, r3, r4, r5) := H
                  have A18 := Aside0.mk A180
                  clear A180
                  have H' := Aside0.mk H
                  clear H
                  have hnb19 := NB143_142.out
                  have hnc19 := NB142_143.out
                  have hcz20_0 : wr.cell? ⟨gb143, 0, none⟩ = some (.int .i64 1) := (blk_cell BK143.out 0).trans rfl
                  have hcz20_1 : wr.cell? ⟨gb143, 1, none⟩ = some (.int .i64 a1) := (blk_cell BK143.out 1).trans rfl
                  have hcz20_2 : wr.cell? ⟨gb143, 2, none⟩ = some (.int .i64 x144002_1) := (blk_cell BK143.out 2).trans rfl
                  have hcz20_3 : wr.cell? ⟨gb143, 3, none⟩ = some (.int .i64 0) := (blk_cell BK143.out 3).trans rfl
                  have hfz20_0 := blk_frozen BK143.out 0
                  have hfz20_1 := blk_frozen BK143.out 1
                  have hfz20_2 := blk_frozen BK143.out 2
                  have hfz20_3 := blk_frozen BK143.out 3
                  have p17 : 0 ≤ (x144002_1 : Int) := of_decide_eq_true (by first | (with_reducible assumption) | assumption)
                  have q17 : x144002_1 < (a0.size : Int) := of_decide_eq_true (by first | (with_reducible assumption) | assumption)
                  have hx17 := bt_at a0 x144002_1
                  replace p17 := eq_true p17
                  replace q17 := eq_true q17
                  go_wp2_with (first | (go_at_call 30; (with_reducible refine (selfstabref04_inner.calls (bt a0 x144002_1) t145 _ A18.out).mono ?_); rintro e w21 ⟨rfl, hb⟩; have n0_ := Aside0.mk (blk_below (g := gb142) (o := .cells #[.int .i64 0, .int .i64 0, .int .i64 0, .int .i64 0] 32 (0, 0)) (by (with_reducible repeat (first | refine blk_drewN ?_ _ | refine blk_drew ?_ | refine blk_alloc ?_ _)); exact BK142.out) hb); have n1_ := Aside0.mk (blk_below (g := gb143) (o := .cells #[.int .i64 1, .int .i64 a1, .int .i64 x144002_1, .int .i64 0] 32 (0, 0)) (by (with_reducible repeat (first | refine blk_drewN ?_ _ | refine blk_drew ?_ | refine blk_alloc ?_ _)); exact BK143.out) hb); have n2_ := Aside0.mk (below_step (by repeat (first | (with_reducible first | exact HB.out | apply below_alloc | apply pw_below_drewN | apply below_drew1 | refine below_set ?_ GE142.out | refine below_set ?_ GE143.out) | exact HB.out)) hb); clear BK142; clear BK143; clear HB; have BK142 := n0_; have BK143 := n1_; have HB := n2_; clear n0_ n1_ n2_; (try clear hb); (try clear hb2); (try clear hk); (try clear hi)))
                  go_meet
                  case rel => exact ⟨_, (t145), (by first | rfl | (simp; done) | (simp [*]; done)), H', ⟨by have := HK1.out; first | omega | exact Nat.le_refl _⟩, ⟨by (with_reducible repeat (first | refine blk_drewN ?_ _ | refine blk_drew ?_ | refine blk_alloc ?_ _)); exact BK142.out⟩, ⟨by (with_reducible repeat (first | refine blk_drewN ?_ _ | refine blk_drew ?_ | refine blk_alloc ?_ _)); exact BK143.out⟩, ⟨by repeat (first | (with_reducible first | exact HB.out | apply below_alloc | apply pw_below_drewN | apply below_drew1 | refine below_set ?_ GE142.out | refine below_set ?_ GE143.out) | exact HB.out)⟩⟩
                · rw [if_neg c16] at H
                  exact absurd H (by simp)
              · rw [if_neg c15] at H
                have c15b0 : decide (x144002_1 < (a0.size : Int)) = false := decide_eq_false c15
                clear c15
                (first | rw [c15b0] | (simp only [i64_w, i32_w]; rw [c15b0]) | skip)
                have H' := Aside0.mk H
                clear H
                have hnb22 := NB143_142.out
                have hnc22 := NB142_143.out
                have hcz23_0 : wr.cell? ⟨gb143, 0, none⟩ = some (.int .i64 1) := (blk_cell BK143.out 0).trans rfl
                have hcz23_1 : wr.cell? ⟨gb143, 1, none⟩ = some (.int .i64 a1) := (blk_cell BK143.out 1).trans rfl
                have hcz23_2 : wr.cell? ⟨gb143, 2, none⟩ = some (.int .i64 x144002_1) := (blk_cell BK143.out 2).trans rfl
                have hcz23_3 : wr.cell? ⟨gb143, 3, none⟩ = some (.int .i64 0) := (blk_cell BK143.out 3).trans rfl
                have hfz23_0 := blk_frozen BK143.out 0
                have hfz23_1 := blk_frozen BK143.out 1
                have hfz23_2 := blk_frozen BK143.out 2
                have hfz23_3 := blk_frozen BK143.out 3
                go_wp2
                go_meet
                case rel => exact ⟨_, (false), (by first | rfl | (simp; done) | (simp [*]; done)), H', ⟨by have := HK1.out; first | omega | exact Nat.le_refl _⟩, ⟨by (with_reducible repeat (first | refine blk_drewN ?_ _ | refine blk_drew ?_ | refine blk_alloc ?_ _)); exact BK142.out⟩, ⟨by (with_reducible repeat (first | refine blk_drewN ?_ _ | refine blk_drew ?_ | refine blk_alloc ?_ _)); exact BK143.out⟩, ⟨by repeat (first | (with_reducible first | exact HB.out | apply below_alloc | apply pw_below_drewN | apply below_drew1 | refine below_set ?_ GE142.out | refine below_set ?_ GE143.out) | exact HB.out)⟩⟩
            case rest =>
              clear HC14
              try clear c1
              try clear p1
              try clear q1
              try clear hx1
              try clear c2
              try clear p2
              try clear c3
              try clear c3b0
              try clear c4
              try clear c4b0
              try clear p5
              try clear q5
              try clear hx5
              try clear p6
              try clear c7
              try clear c10
              try clear c15
              try clear c15b0
              try clear c16
              try clear c16b0
              try clear p17
              try clear q17
              try clear hx17
              try clear c19
              try clear c22
              try clear hcz11_0
              try clear hcz11_1
              try clear hcz11_2
              try clear hcz11_3
              try clear hcz13_0
              try clear hcz13_1
              try clear hcz13_2
              try clear hcz13_3
              try clear hcz20_0
              try clear hcz20_1
              try clear hcz20_2
              try clear hcz20_3
              try clear hcz23_0
              try clear hcz23_1
              try clear hcz23_2
              try clear hcz23_3
              try clear hfz11_0
              try clear hfz11_1
              try clear hfz11_2
              try clear hfz11_3
              try clear hfz13_0
              try clear hfz13_1
              try clear hfz13_2
              try clear hfz13_3
              try clear hfz20_0
              try clear hfz20_1
              try clear hfz20_2
              try clear hfz20_3
              try clear hfz23_0
              try clear hfz23_1
              try clear hfz23_2
              try clear hfz23_3
              try clear p17
              try clear p2
              try clear p5
              try clear p6
              try clear q17
              try clear q5
              obtain ⟨kq, x31_13, rfl, HA, HJ13, BK142, BK143, HB⟩ := hcut
              cases kq with
              | zero => exact absurd HA.out (by simp [selfstabref04_token.j1])
              | succ kj13 =>
                have H := HA.out
                clear HA
                simp only [selfstabref04_token.j1] at H
                by_cases c24 : x31_13 = true
                · subst c24
                  have H1 : (selfstabref04_token.l0 kj13 a0 a1 1 a1 (wrap64 (x144002_1 + 1)) 0) = some (r1, r2, r3, r4, r5) := by rw [if_pos rfl] at H; exact H
                  clear H
                  have H := H1
                  clear H1
                  have H' := Aside0.mk H
                  clear H
                  have hnb25 := NB143_142.out
                  have hnc25 := NB142_143.out
                  have hcz26_0 : wc.cell? ⟨gb143, 0, none⟩ = some (.int .i64 1) := (blk_cell BK143.out 0).trans rfl
                  have hcz26_1 : wc.cell? ⟨gb143, 1, none⟩ = some (.int .i64 a1) := (blk_cell BK143.out 1).trans rfl
                  have hcz26_2 : wc.cell? ⟨gb143, 2, none⟩ = some (.int .i64 x144002_1) := (blk_cell BK143.out 2).trans rfl
                  have hcz26_3 : wc.cell? ⟨gb143, 3, none⟩ = some (.int .i64 0) := (blk_cell BK143.out 3).trans rfl
                  have hfz26_0 := blk_frozen BK143.out 0
                  have hfz26_1 := blk_frozen BK143.out 1
                  have hfz26_2 := blk_frozen BK143.out 2
                  have hfz26_3 := blk_frozen BK143.out 3
                  go_wp2
                  go_roundg kj13
                  case measure => have := HK1.out; have := HJ13.out; omega
                  case rel => exact ⟨(wrap64 (x144002_1 + 1)), H', ⟨by have := HK1.out; have := HJ13.out; omega⟩, ⟨by (with_reducible repeat (first | refine blk_drewN ?_ _ | refine blk_drew ?_ | refine blk_alloc ?_ _)); refine blk_far ?_ NB142_143.out _; (with_reducible repeat (first | refine blk_drewN ?_ _ | refine blk_drew ?_ | refine blk_alloc ?_ _)); exact BK142.out⟩, ⟨by (with_reducible repeat (first | refine blk_drewN ?_ _ | refine blk_drew ?_ | refine blk_alloc ?_ _)); refine blk_put (cs := #[.int .i64 1, .int .i64 a1, .int .i64 x144002_1, .int .i64 0]) ?_ 2 _ rfl; (with_reducible repeat (first | refine blk_drewN ?_ _ | refine blk_drew ?_ | refine blk_alloc ?_ _)); exact BK143.out⟩, ⟨by repeat (first | (with_reducible first | exact HB.out | apply below_alloc | apply pw_below_drewN | apply below_drew1 | refine below_set ?_ GE142.out | refine below_set ?_ GE143.out) | exact HB.out)⟩⟩
                · replace c24 := Bool.eq_false_iff.mpr c24
                  subst c24
                  have H1 : (if (wrap64 (x144002_1 - a1)) > 24 then (some (0, 0, 0, 0, 5)) else (some (1, a1, x144002_1, 0, 0))) = some (r1, r2, r3, r4, r5) := by rw [if_neg (show ¬ (false = true) by decide)] at H; exact H
                  clear H
                  have H := H1
                  clear H1
                  by_cases c27 : (wrap64 (x144002_1 - a1)) > 24
                  · rw [if_pos c27] at H
                    have c27b0 : decide (24 < (wrap64 (x144002_1 - a1))) = true := decide_eq_true c27
                    clear c27
                    simp only [Option.some.injEq, Prod.mk.injEq] at H
                    obtain ⟨rfl, rfl, rfl, rfl, rfl⟩ := H
                    have hnb28 := NB143_142.out
                    have hnc28 := NB142_143.out
                    have hcz29_0 : wc.cell? ⟨gb143, 0, none⟩ = some (.int .i64 1) := (blk_cell BK143.out 0).trans rfl
                    have hcz29_1 : wc.cell? ⟨gb143, 1, none⟩ = some (.int .i64 a1) := (blk_cell BK143.out 1).trans rfl
                    have hcz29_2 : wc.cell? ⟨gb143, 2, none⟩ = some (.int .i64 x144002_1) := (blk_cell BK143.out 2).trans rfl
                    have hcz29_3 : wc.cell? ⟨gb143, 3, none⟩ = some (.int .i64 0) := (blk_cell BK143.out 3).trans rfl
                    have hfz29_0 := blk_frozen BK143.out 0
                    have hfz29_1 := blk_frozen BK143.out 1
                    have hfz29_2 := blk_frozen BK143.out 2
                    have hfz29_3 := blk_frozen BK143.out 3
                    have hcz30_0 : wc.cell? ⟨gb142, 0, none⟩ = some (.int .i64 0) := (blk_cell BK142.out 0).trans rfl
                    have hcz30_1 : wc.cell? ⟨gb142, 1, none⟩ = some (.int .i64 0) := (blk_cell BK142.out 1).trans rfl
                    have hcz30_2 : wc.cell? ⟨gb142, 2, none⟩ = some (.int .i64 0) := (blk_cell BK142.out 2).trans rfl
                    have hcz30_3 : wc.cell? ⟨gb142, 3, none⟩ = some (.int .i64 0) := (blk_cell BK142.out 3).trans rfl
                    have hfz30_0 := blk_frozen BK142.out 0
                    have hfz30_1 := blk_frozen BK142.out 1
                    have hfz30_2 := blk_frozen BK142.out 2
                    have hfz30_3 := blk_frozen BK142.out 3
                    go_wp2
                    refine bodyPost_ret (results_ct rfl _ _ gb142 32 #[.int .i64 0, .int .i64 0, .int .i64 0, .int .i64 0] (0, 0) _ rfl (by (with_reducible repeat (first | refine blk_drewN ?_ _ | refine blk_drew ?_ | refine blk_alloc ?_ _)); refine blk_put (cs := #[.int .i64 0, .int .i64 0, .int .i64 0, .int .i64 0]) ?_ 3 _ rfl; (with_reducible repeat (first | refine blk_drewN ?_ _ | refine blk_drew ?_ | refine blk_alloc ?_ _)); refine blk_put (cs := #[.int .i64 0, .int .i64 0, .int .i64 0, .int .i64 0]) ?_ 2 _ rfl; (with_reducible repeat (first | refine blk_drewN ?_ _ | refine blk_drew ?_ | refine blk_alloc ?_ _)); refine blk_put (cs := #[.int .i64 0, .int .i64 0, .int .i64 0, .int .i64 0]) ?_ 1 _ rfl; (with_reducible repeat (first | refine blk_drewN ?_ _ | refine blk_drew ?_ | refine blk_alloc ?_ _)); refine blk_put (cs := #[.int .i64 0, .int .i64 0, .int .i64 0, .int .i64 0]) ?_ 0 _ rfl; (with_reducible repeat (first | refine blk_drewN ?_ _ | refine blk_drew ?_ | refine blk_alloc ?_ _)); exact BK142.out) Try.underlying32 rfl (by kernel_rfl)) rfl ?_
                    exact ⟨by first | rfl | (simp [errW_none, errW_some] <;> rfl) | (simp [*, errW_none, errW_some] <;> rfl), by repeat (first | (with_reducible first | exact HB.out | apply below_alloc | apply pw_below_drewN | apply below_drew1 | refine below_set ?_ GE142.out | refine below_set ?_ GE143.out) | exact HB.out)⟩
                  · rw [if_neg c27] at H
                    have c27b0 : decide (24 < (wrap64 (x144002_1 - a1))) = false := decide_eq_false c27
                    clear c27
                    simp only [Option.some.injEq, Prod.mk.injEq] at H
                    obtain ⟨rfl, rfl, rfl, rfl, rfl⟩ := H
                    have hnb31 := NB143_142.out
                    have hnc31 := NB142_143.out
                    have hcz32_0 : wc.cell? ⟨gb143, 0, none⟩ = some (.int .i64 1) := (blk_cell BK143.out 0).trans rfl
                    have hcz32_1 : wc.cell? ⟨gb143, 1, none⟩ = some (.int .i64 a1) := (blk_cell BK143.out 1).trans rfl
                    have hcz32_2 : wc.cell? ⟨gb143, 2, none⟩ = some (.int .i64 x144002_1) := (blk_cell BK143.out 2).trans rfl
                    have hcz32_3 : wc.cell? ⟨gb143, 3, none⟩ = some (.int .i64 0) := (blk_cell BK143.out 3).trans rfl
                    have hfz32_0 := blk_frozen BK143.out 0
                    have hfz32_1 := blk_frozen BK143.out 1
                    have hfz32_2 := blk_frozen BK143.out 2
                    have hfz32_3 := blk_frozen BK143.out 3
                    have hcz33_0 : wc.cell? ⟨gb142, 0, none⟩ = some (.int .i64 0) := (blk_cell BK142.out 0).trans rfl
                    have hcz33_1 : wc.cell? ⟨gb142, 1, none⟩ = some (.int .i64 0) := (blk_cell BK142.out 1).trans rfl
                    have hcz33_2 : wc.cell? ⟨gb142, 2, none⟩ = some (.int .i64 0) := (blk_cell BK142.out 2).trans rfl
                    have hcz33_3 : wc.cell? ⟨gb142, 3, none⟩ = some (.int .i64 0) := (blk_cell BK142.out 3).trans rfl
                    have hfz33_0 := blk_frozen BK142.out 0
                    have hfz33_1 := blk_frozen BK142.out 1
                    have hfz33_2 := blk_frozen BK142.out 2
                    have hfz33_3 := blk_frozen BK142.out 3
                    go_wp2
                    refine bodyPost_ret (results_ct rfl _ _ gb142 32 #[.int .i64 1, .int .i64 a1, .int .i64 x144002_1, .int .i64 0] (0, 0) _ rfl (by (with_reducible repeat (first | refine blk_drewN ?_ _ | refine blk_drew ?_ | refine blk_alloc ?_ _)); refine blk_put (cs := #[.int .i64 1, .int .i64 a1, .int .i64 x144002_1, .int .i64 0]) ?_ 3 _ rfl; (with_reducible repeat (first | refine blk_drewN ?_ _ | refine blk_drew ?_ | refine blk_alloc ?_ _)); refine blk_put (cs := #[.int .i64 1, .int .i64 a1, .int .i64 0, .int .i64 0]) ?_ 2 _ rfl; (with_reducible repeat (first | refine blk_drewN ?_ _ | refine blk_drew ?_ | refine blk_alloc ?_ _)); refine blk_put (cs := #[.int .i64 1, .int .i64 0, .int .i64 0, .int .i64 0]) ?_ 1 _ rfl; (with_reducible repeat (first | refine blk_drewN ?_ _ | refine blk_drew ?_ | refine blk_alloc ?_ _)); refine blk_put (cs := #[.int .i64 0, .int .i64 0, .int .i64 0, .int .i64 0]) ?_ 0 _ rfl; (with_reducible repeat (first | refine blk_drewN ?_ _ | refine blk_drew ?_ | refine blk_alloc ?_ _)); exact BK142.out) Try.underlying32 rfl (by kernel_rfl)) rfl ?_
                    exact ⟨by first | rfl | (simp [errW_none, errW_some] <;> rfl) | (simp [*, errW_none, errW_some] <;> rfl), by repeat (first | (with_reducible first | exact HB.out | apply below_alloc | apply pw_below_drewN | apply below_drew1 | refine below_set ?_ GE142.out | refine below_set ?_ GE143.out) | exact HB.out)⟩
      · replace c7 := Bool.eq_false_iff.mpr c7
        subst c7
        have H1 : ((selfstabref04_Digit.f (bt a0 a1)).bind fun t146 => (if t146 = true then (selfstabref04_token.l1 k a0 a1 2 a1 (wrap64 (a1 + 1)) 0) else ((selfstabref04_sign.f k a0 a1).bind fun t150 => (if t150 > 0 then ((selfstabref04_sign.f k a0 a1).bind fun t150 => (some (3, a1, wrap64 (a1 + t150), 0, 0))) else (some (0, 0, 0, 0, 4)))))) = some (r1, r2, r3, r4, r5) := by rw [if_neg (show ¬ (false = true) by decide)] at H; exact H
        clear H
        have H := H1
        clear H1
        replace H := Option.bind_eq_some_iff.mp H
        obtain ⟨t146, A350, H⟩ := H
        replace H : (if t146 = true then (selfstabref04_token.l1 k a0 a1 2 a1 (wrap64 (a1 + 1)) 0) else ((selfstabref04_sign.f k a0 a1).bind fun t150 => (if t150 > 0 then ((selfstabref04_sign.f k a0 a1).bind fun t150 => (some (3, a1, wrap64 (a1 + t150), 0, 0))) else (some (0, 0, 0, 0, 4))))) = some (r1, r2, r3, r4, r5) := H
        have A35 := Aside0.mk A350
        clear A350
        by_cases c36 : t146 = true
        · subst c36
          have H1 : (selfstabref04_token.l1 k a0 a1 2 a1 (wrap64 (a1 + 1)) 0) = some (r1, r2, r3, r4, r5) := by rw [if_pos rfl] at H; exact H
          clear H
          have H := H1
          clear H1
          have H' := Aside0.mk H
          clear H
          go_enter Try.func24, Try.ntmps24
          go_wp2_with (first | ((with_reducible refine gate_dst (N := 4) rfl ?_); refine box_event ?hg (N := 4) ?hd (cs := #[.int .i64 0, .int .i64 0, .int .i64 0, .int .i64 0]) (t := 32) ?hr ?_; (case hd => rfl); (case hg => rfl); (case hr => first | (go_simp; done) | (go_simp; rfl)); intro gb142 hg w37 hbox hb; have n0_ := Aside0.mk (below_step (by repeat (first | (with_reducible first | exact HB.out | apply below_alloc | apply pw_below_drewN | apply below_drew1) | exact HB.out)) hb); have n1_ := Aside0.mk (hbox); have n2_ := Aside0.mk ((by rw [hg]; exact (below_size (by repeat (first | (with_reducible first | exact HB.out | apply below_alloc | apply pw_below_drewN | apply below_drew1) | exact HB.out))) : w.heap.size ≤ gb142)); have n3_ := Aside0.mk ((by rw [hg]; exact (below_size (by repeat (first | (with_reducible first | exact HB.out | apply below_alloc | apply pw_below_drewN | apply below_drew1) | exact HB.out))) : w.heap.size ≤ gb142)); clear HB; have HB := n0_; have BK142 := n1_; have GW142 := n2_; have GE142 := n3_; clear n0_ n1_ n2_ n3_; clear hb hbox hg) | ((with_reducible refine gate_dst (N := 6) rfl ?_); refine box_event ?hg (N := 6) ?hd (cs := #[.int .i64 0, .int .i64 0, .int .i64 0, .int .i64 0]) (t := 32) ?hr ?_; (case hd => rfl); (case hg => rfl); (case hr => first | (go_simp; done) | (go_simp; rfl)); intro gb143 hg w38 hbox hb; have n0_ := Aside0.mk (blk_below (g := gb142) (o := .cells #[.int .i64 0, .int .i64 0, .int .i64 0, .int .i64 0] 32 (0, 0)) (by (with_reducible repeat (first | refine blk_drewN ?_ _ | refine blk_drew ?_ | refine blk_alloc ?_ _)); exact BK142.out) hb); have n1_ := Aside0.mk (below_step (by repeat (first | (with_reducible first | exact HB.out | apply below_alloc | apply pw_below_drewN | apply below_drew1 | refine below_set ?_ GE142.out) | exact HB.out)) hb); have n2_ := Aside0.mk (hbox); have n3_ := Aside0.mk ((by rw [hg]; exact (below_size (by repeat (first | (with_reducible first | exact HB.out | apply below_alloc | apply pw_below_drewN | apply below_drew1 | refine below_set ?_ GE142.out) | exact HB.out))) : w.heap.size ≤ gb143)); have n4_ := Aside0.mk ((by rw [hg]; exact (below_size (by repeat (first | (with_reducible first | exact HB.out | apply below_alloc | apply pw_below_drewN | apply below_drew1 | refine below_set ?_ GE142.out) | exact HB.out))) : w.heap.size ≤ gb143)); have n5_ := Aside0.mk ((by rw [hg]; exact Nat.ne_of_lt (blk_lt (g := gb142) (o := .cells #[.int .i64 0, .int .i64 0, .int .i64 0, .int .i64 0] 32 (0, 0)) (by (with_reducible repeat (first | refine blk_drewN ?_ _ | refine blk_drew ?_ | refine blk_alloc ?_ _)); exact BK142.out)) : gb142 ≠ gb143)); have n6_ := Aside0.mk ((by rw [hg]; exact Nat.ne_of_gt (blk_lt (g := gb142) (o := .cells #[.int .i64 0, .int .i64 0, .int .i64 0, .int .i64 0] 32 (0, 0)) (by (with_reducible repeat (first | refine blk_drewN ?_ _ | refine blk_drew ?_ | refine blk_alloc ?_ _)); exact BK142.out)) : gb143 ≠ gb142)); clear BK142; clear HB; have BK142 := n0_; have HB := n1_; have BK143 := n2_; have GW143 := n3_; have GE143 := n4_; have NB142_143 := n5_; have NB143_142 := n6_; clear n0_ n1_ n2_ n3_ n4_ n5_ n6_; clear hb hbox hg; have hnb39 := NB143_142.out; have hnc39 := NB142_143.out; have hcz40_0 : w38.cell? ⟨gb143, 0, none⟩ = some (.int .i64 0) := (blk_cell BK143.out 0).trans rfl; have hcz40_1 : w38.cell? ⟨gb143, 1, none⟩ = some (.int .i64 0) := (blk_cell BK143.out 1).trans rfl; have hcz40_2 : w38.cell? ⟨gb143, 2, none⟩ = some (.int .i64 0) := (blk_cell BK143.out 2).trans rfl; have hcz40_3 : w38.cell? ⟨gb143, 3, none⟩ = some (.int .i64 0) := (blk_cell BK143.out 3).trans rfl; have hfz40_0 := blk_frozen BK143.out 0; have hfz40_1 := blk_frozen BK143.out 1; have hfz40_2 := blk_frozen BK143.out 2; have hfz40_3 := blk_frozen BK143.out 3; have p5 : 0 ≤ (a1 : Int) := of_decide_eq_true (by first | (with_reducible assumption) | assumption); have q5 : a1 < (a0.size : Int) := of_decide_eq_true (by first | (with_reducible assumption) | assumption); have hx5 := bt_at a0 a1; replace p5 := eq_true p5; replace q5 := eq_true q5) | ((with_reducible refine gate_callee (f := 29) rfl ?_); refine goesL_ (some 18) rfl rfl Try.func29 (by kernel_rfl) rfl #[.int .u8 (bt a0 a1)] rfl (by (try simp only [List.map_toArray, List.map_cons, List.map_nil]); first | done | rfl | (simp only [List.length_drop, List.length_take]; rfl)) ?_; (with_reducible refine (selfstabref04_Letter.calls (bt a0 a1) false _ A6.out).mono ?_); rintro e w41 ⟨rfl, hb⟩; refine ⟨_, rfl, ?_⟩; have n0_ := Aside0.mk (blk_below (g := gb142) (o := .cells #[.int .i64 0, .int .i64 0, .int .i64 0, .int .i64 0] 32 (0, 0)) (by (with_reducible repeat (first | refine blk_drewN ?_ _ | refine blk_drew ?_ | refine blk_alloc ?_ _)); refine blk_far ?_ NB142_143.out _; (with_reducible repeat (first | refine blk_drewN ?_ _ | refine blk_drew ?_ | refine blk_alloc ?_ _)); refine blk_far ?_ NB142_143.out _; (with_reducible repeat (first | refine blk_drewN ?_ _ | refine blk_drew ?_ | refine blk_alloc ?_ _)); refine blk_far ?_ NB142_143.out _; (with_reducible repeat (first | refine blk_drewN ?_ _ | refine blk_drew ?_ | refine blk_alloc ?_ _)); refine blk_far ?_ NB142_143.out _; (with_reducible repeat (first | refine blk_drewN ?_ _ | refine blk_drew ?_ | refine blk_alloc ?_ _)); exact BK142.out) hb); have n1_ := Aside0.mk (blk_below (g := gb143) (o := .cells #[.int .i64 0, .int .i64 a1, .int .i64 (wrap64 (a1 + 1)), .int .i64 0] 32 (0, 0)) (by (with_reducible repeat (first | refine blk_drewN ?_ _ | refine blk_drew ?_ | refine blk_alloc ?_ _)); refine blk_put (cs := #[.int .i64 0, .int .i64 a1, .int .i64 (wrap64 (a1 + 1)), .int .i64 0]) ?_ 3 _ rfl; (with_reducible repeat (first | refine blk_drewN ?_ _ | refine blk_drew ?_ | refine blk_alloc ?_ _)); refine blk_put (cs := #[.int .i64 0, .int .i64 a1, .int .i64 0, .int .i64 0]) ?_ 2 _ rfl; (with_reducible repeat (first | refine blk_drewN ?_ _ | refine blk_drew ?_ | refine blk_alloc ?_ _)); refine blk_put (cs := #[.int .i64 0, .int .i64 0, .int .i64 0, .int .i64 0]) ?_ 1 _ rfl; (with_reducible repeat (first | refine blk_drewN ?_ _ | refine blk_drew ?_ | refine blk_alloc ?_ _)); refine blk_put (cs := #[.int .i64 0, .int .i64 0, .int .i64 0, .int .i64 0]) ?_ 0 _ rfl; (with_reducible repeat (first | refine blk_drewN ?_ _ | refine blk_drew ?_ | refine blk_alloc ?_ _)); exact BK143.out) hb); have n2_ := Aside0.mk (below_step (by repeat (first | (with_reducible first | exact HB.out | apply below_alloc | apply pw_below_drewN | apply below_drew1 | refine below_set ?_ GE142.out | refine below_set ?_ GE143.out) | exact HB.out)) hb); clear BK142; clear BK143; clear HB; have BK142 := n0_; have BK143 := n1_; have HB := n2_; clear n0_ n1_ n2_; (try clear hb); (try clear hb2); (try clear hk); (try clear hi); have p34 : 0 ≤ (a1 : Int) := of_decide_eq_true (by first | (with_reducible assumption) | assumption); have q34 : a1 < (a0.size : Int) := of_decide_eq_true (by first | (with_reducible assumption) | assumption); have hx34 := bt_at a0 a1; replace p34 := eq_true p34; replace q34 := eq_true q34) | ((with_reducible refine gate_callee (f := 37) rfl ?_); refine goesL_ (some 46) rfl rfl Try.func37 (by kernel_rfl) rfl #[.int .u8 (bt a0 a1)] rfl (by (try simp only [List.map_toArray, List.map_cons, List.map_nil]); first | done | rfl | (simp only [List.length_drop, List.length_take]; rfl)) ?_; (with_reducible refine (selfstabref04_Digit.calls (bt a0 a1) true _ A35.out).mono ?_); rintro e w42 ⟨rfl, hb⟩; refine ⟨_, rfl, ?_⟩; have n0_ := Aside0.mk (blk_below (g := gb142) (o := .cells #[.int .i64 0, .int .i64 0, .int .i64 0, .int .i64 0] 32 (0, 0)) (by (with_reducible repeat (first | refine blk_drewN ?_ _ | refine blk_drew ?_ | refine blk_alloc ?_ _)); exact BK142.out) hb); have n1_ := Aside0.mk (blk_below (g := gb143) (o := .cells #[.int .i64 0, .int .i64 a1, .int .i64 (wrap64 (a1 + 1)), .int .i64 0] 32 (0, 0)) (by (with_reducible repeat (first | refine blk_drewN ?_ _ | refine blk_drew ?_ | refine blk_alloc ?_ _)); exact BK143.out) hb); have n2_ := Aside0.mk (below_step (by repeat (first | (with_reducible first | exact HB.out | apply below_alloc | apply pw_below_drewN | apply below_drew1 | refine below_set ?_ GE142.out | refine below_set ?_ GE143.out) | exact HB.out)) hb); clear BK142; clear BK143; clear HB; have BK142 := n0_; have BK143 := n1_; have HB := n2_; clear n0_ n1_ n2_; (try clear hb); (try clear hb2); (try clear hk); (try clear hi); have hcz43_0 : w42.cell? ⟨gb143, 0, none⟩ = some (.int .i64 0) := (blk_cell BK143.out 0).trans rfl; have hcz43_1 : w42.cell? ⟨gb143, 1, none⟩ = some (.int .i64 a1) := (blk_cell BK143.out 1).trans rfl; have hcz43_2 : w42.cell? ⟨gb143, 2, none⟩ = some (.int .i64 (wrap64 (a1 + 1))) := (blk_cell BK143.out 2).trans rfl; have hcz43_3 : w42.cell? ⟨gb143, 3, none⟩ = some (.int .i64 0) := (blk_cell BK143.out 3).trans rfl; have hfz43_0 := blk_frozen BK143.out 0; have hfz43_1 := blk_frozen BK143.out 1; have hfz43_2 := blk_frozen BK143.out 2; have hfz43_3 := blk_frozen BK143.out 3))
          go_loopg [] k (fun kq w' => ∃ (x144002_1 : Int), Aside0 (selfstabref04_token.l1 kq a0 a1 2 a1 x144002_1 0 = some (r1, r2, r3, r4, r5)) ∧ Aside0 (kq ≤ k) ∧ Aside0 (w'.heap[gb142]? = some (.cells #[.int .i64 0, .int .i64 0, .int .i64 0, .int .i64 0] 32 (0, 0))) ∧ Aside0 (w'.heap[gb143]? = some (.cells #[.int .i64 2, .int .i64 a1, .int .i64 x144002_1, .int .i64 0] 32 (0, 0))) ∧ Aside0 (Below w.heap.size w w'))
          case atStart => exact ⟨(wrap64 (a1 + 1)), H', ⟨Nat.le_refl _⟩, ⟨by (with_reducible repeat (first | refine blk_drewN ?_ _ | refine blk_drew ?_ | refine blk_alloc ?_ _)); refine blk_far ?_ NB142_143.out _; (with_reducible repeat (first | refine blk_drewN ?_ _ | refine blk_drew ?_ | refine blk_alloc ?_ _)); exact BK142.out⟩, ⟨by (with_reducible repeat (first | refine blk_drewN ?_ _ | refine blk_drew ?_ | refine blk_alloc ?_ _)); refine blk_put (cs := #[.int .i64 0, .int .i64 a1, .int .i64 (wrap64 (a1 + 1)), .int .i64 0]) ?_ 0 _ rfl; (with_reducible repeat (first | refine blk_drewN ?_ _ | refine blk_drew ?_ | refine blk_alloc ?_ _)); exact BK143.out⟩, ⟨by repeat (first | (with_reducible first | exact HB.out | apply below_alloc | apply pw_below_drewN | apply below_drew1 | refine below_set ?_ GE142.out | refine below_set ?_ GE143.out) | exact HB.out)⟩⟩
          case round =>
            clear H'
            try clear c1
            try clear p1
            try clear q1
            try clear hx1
            try clear c2
            try clear p2
            try clear c3
            try clear c3b0
            try clear p3
            try clear q3
            try clear hx3
            try clear c4
            try clear c4b0
            try clear p5
            try clear q5
            try clear hx5
            try clear p6
            try clear c7
            try clear c10
            try clear c15
            try clear c15b0
            try clear c16
            try clear c16b0
            try clear p17
            try clear q17
            try clear hx17
            try clear c19
            try clear c22
            try clear c24
            try clear c25
            try clear c27
            try clear c27b0
            try clear c28
            try clear c29
            try clear c31
            try clear p34
            try clear q34
            try clear hx34
            try clear c36
            try clear c37
            try clear c39
            try clear hcz11_0
            try clear hcz11_1
            try clear hcz11_2
            try clear hcz11_3
            try clear hcz13_0
            try clear hcz13_1
            try clear hcz13_2
            try clear hcz13_3
            try clear hcz20_0
            try clear hcz20_1
            try clear hcz20_2
            try clear hcz20_3
            try clear hcz23_0
            try clear hcz23_1
            try clear hcz23_2
            try clear hcz23_3
            try clear hcz26_0
            try clear hcz26_1
            try clear hcz26_2
            try clear hcz26_3
            try clear hcz29_0
            try clear hcz29_1
            try clear hcz29_2
            try clear hcz29_3
            try clear hcz30_0
            try clear hcz30_1
            try clear hcz30_2
            try clear hcz30_3
            try clear hcz32_0
            try clear hcz32_1
            try clear hcz32_2
            try clear hcz32_3
            try clear hcz33_0
            try clear hcz33_1
            try clear hcz33_2
            try clear hcz33_3
            try clear hcz40_0
            try clear hcz40_1
            try clear hcz40_2
            try clear hcz40_3
            try clear hcz43_0
            try clear hcz43_1
            try clear hcz43_2
            try clear hcz43_3
            try clear hfz11_0
            try clear hfz11_1
            try clear hfz11_2
            try clear hfz11_3
            try clear hfz13_0
            try clear hfz13_1
            try clear hfz13_2
            try clear hfz13_3
            try clear hfz20_0
            try clear hfz20_1
            try clear hfz20_2
            try clear hfz20_3
            try clear hfz23_0
            try clear hfz23_1
            try clear hfz23_2
            try clear hfz23_3
            try clear hfz26_0
            try clear hfz26_1
            try clear hfz26_2
            try clear hfz26_3
            try clear hfz29_0
            try clear hfz29_1
            try clear hfz29_2
            try clear hfz29_3
            try clear hfz30_0
            try clear hfz30_1
            try clear hfz30_2
            try clear hfz30_3
            try clear hfz32_0
            try clear hfz32_1
            try clear hfz32_2
            try clear hfz32_3
            try clear hfz33_0
            try clear hfz33_1
            try clear hfz33_2
            try clear hfz33_3
            try clear hfz40_0
            try clear hfz40_1
            try clear hfz40_2
            try clear hfz40_3
            try clear hfz43_0
            try clear hfz43_1
            try clear hfz43_2
            try clear hfz43_3
            try clear p1
            try clear p17
            try clear p2
            try clear p34
            try clear p5
            try clear p6
            try clear q1
            try clear q17
            try clear q34
            try clear q5
            obtain ⟨x144002_1, HA, HK1, BK142, BK143, HB⟩ := hrel
            cases gk with
            | zero => exact absurd HA.out (by simp [selfstabref04_token.l1])
            | succ k1 =>
              have H := HA.out
              clear HA
              simp only [selfstabref04_token.l1] at H
              have HC44 := Aside0.mk H
              clear H
              go_upto_region 11 with (fail)
              go_cut [59] (fun v59 wc => ∃ (kq : Nat) (x59_43 : Bool), v59 = .bool x59_43 ∧ Aside0 (selfstabref04_token.j3 kq a0 a1 x59_43 2 a1 x144002_1 0 = some (r1, r2, r3, r4, r5)) ∧ Aside0 (kq ≤ k1) ∧ Aside0 (wc.heap[gb142]? = some (.cells #[.int .i64 0, .int .i64 0, .int .i64 0, .int .i64 0] 32 (0, 0))) ∧ Aside0 (wc.heap[gb143]? = some (.cells #[.int .i64 2, .int .i64 a1, .int .i64 x144002_1, .int .i64 0] 32 (0, 0))) ∧ Aside0 (Below w.heap.size w wc))
              case first =>
                have H := HC44.out
                clear HC44
                by_cases c45 : x144002_1 < (a0.size : Int)
                · rw [if_pos c45] at H
                  have c45b0 : decide (x144002_1 < (a0.size : Int)) = true := decide_eq_true c45
                  clear c45
                  (first | rw [c45b0] | (simp only [i64_w, i32_w]; rw [c45b0]) | skip)
                  by_cases c46 : 0 ≤ x144002_1
                  · rw [if_pos c46] at H
                    have c46b0 : decide (0 ≤ x144002_1) = true := decide_eq_true c46
                    clear c46
                    replace H := Option.bind_eq_some_iff.mp H
                    obtain ⟨t147, A480, H⟩ := H
                    replace H : (selfstabref04_token.j3 k1 a0 a1 t147 2 a1 x144002_1 0) = some (r1, r2, r3, r4, r5) := H
                    have A48 := Aside0.mk A480
                    clear A480
                    have H' := Aside0.mk H
                    clear H
                    have hnb49 := NB143_142.out
                    have hnc49 := NB142_143.out
                    have hcz50_0 : wr.cell? ⟨gb143, 0, none⟩ = some (.int .i64 2) := (blk_cell BK143.out 0).trans rfl
                    have hcz50_1 : wr.cell? ⟨gb143, 1, none⟩ = some (.int .i64 a1) := (blk_cell BK143.out 1).trans rfl
                    have hcz50_2 : wr.cell? ⟨gb143, 2, none⟩ = some (.int .i64 x144002_1) := (blk_cell BK143.out 2).trans rfl
                    have hcz50_3 : wr.cell? ⟨gb143, 3, none⟩ = some (.int .i64 0) := (blk_cell BK143.out 3).trans rfl
                    have hfz50_0 := blk_frozen BK143.out 0
                    have hfz50_1 := blk_frozen BK143.out 1
                    have hfz50_2 := blk_frozen BK143.out 2
                    have hfz50_3 := blk_frozen BK143.out 3
                    have p47 : 0 ≤ (x144002_1 : Int) := of_decide_eq_true (by first | (with_reducible assumption) | assumption)
                    have q47 : x144002_1 < (a0.size : Int) := of_decide_eq_true (by first | (with_reducible assumption) | assumption)
                    have hx47 := bt_at a0 x144002_1
                    replace p47 := eq_true p47
                    replace q47 := eq_true q47
                    go_wp2_with (first | (go_at_call 37; (with_reducible refine (selfstabref04_Digit.calls (bt a0 x144002_1) t147 _ A48.out).mono ?_); rintro e w51 ⟨rfl, hb⟩; have n0_ := Aside0.mk (blk_below (g := gb142) (o := .cells #[.int .i64 0, .int .i64 0, .int .i64 0, .int .i64 0] 32 (0, 0)) (by (with_reducible repeat (first | refine blk_drewN ?_ _ | refine blk_drew ?_ | refine blk_alloc ?_ _)); exact BK142.out) hb); have n1_ := Aside0.mk (blk_below (g := gb143) (o := .cells #[.int .i64 2, .int .i64 a1, .int .i64 x144002_1, .int .i64 0] 32 (0, 0)) (by (with_reducible repeat (first | refine blk_drewN ?_ _ | refine blk_drew ?_ | refine blk_alloc ?_ _)); exact BK143.out) hb); have n2_ := Aside0.mk (below_step (by repeat (first | (with_reducible first | exact HB.out | apply below_alloc | apply pw_below_drewN | apply below_drew1 | refine below_set ?_ GE142.out | refine below_set ?_ GE143.out) | exact HB.out)) hb); clear BK142; clear BK143; clear HB; have BK142 := n0_; have BK143 := n1_; have HB := n2_; clear n0_ n1_ n2_; (try clear hb); (try clear hb2); (try clear hk); (try clear hi)))
                    go_meet
                    case rel => exact ⟨_, (t147), (by first | rfl | (simp; done) | (simp [*]; done)), H', ⟨by have := HK1.out; first | omega | exact Nat.le_refl _⟩, ⟨by (with_reducible repeat (first | refine blk_drewN ?_ _ | refine blk_drew ?_ | refine blk_alloc ?_ _)); exact BK142.out⟩, ⟨by (with_reducible repeat (first | refine blk_drewN ?_ _ | refine blk_drew ?_ | refine blk_alloc ?_ _)); exact BK143.out⟩, ⟨by repeat (first | (with_reducible first | exact HB.out | apply below_alloc | apply pw_below_drewN | apply below_drew1 | refine below_set ?_ GE142.out | refine below_set ?_ GE143.out) | exact HB.out)⟩⟩
                  · rw [if_neg c46] at H
                    exact absurd H (by simp)
                · rw [if_neg c45] at H
                  have c45b0 : decide (x144002_1 < (a0.size : Int)) = false := decide_eq_false c45
                  clear c45
                  (first | rw [c45b0] | (simp only [i64_w, i32_w]; rw [c45b0]) | skip)
                  have H' := Aside0.mk H
                  clear H
                  have hnb52 := NB143_142.out
                  have hnc52 := NB142_143.out
                  have hcz53_0 : wr.cell? ⟨gb143, 0, none⟩ = some (.int .i64 2) := (blk_cell BK143.out 0).trans rfl
                  have hcz53_1 : wr.cell? ⟨gb143, 1, none⟩ = some (.int .i64 a1) := (blk_cell BK143.out 1).trans rfl
                  have hcz53_2 : wr.cell? ⟨gb143, 2, none⟩ = some (.int .i64 x144002_1) := (blk_cell BK143.out 2).trans rfl
                  have hcz53_3 : wr.cell? ⟨gb143, 3, none⟩ = some (.int .i64 0) := (blk_cell BK143.out 3).trans rfl
                  have hfz53_0 := blk_frozen BK143.out 0
                  have hfz53_1 := blk_frozen BK143.out 1
                  have hfz53_2 := blk_frozen BK143.out 2
                  have hfz53_3 := blk_frozen BK143.out 3
                  go_wp2
                  go_meet
                  case rel => exact ⟨_, (false), (by first | rfl | (simp; done) | (simp [*]; done)), H', ⟨by have := HK1.out; first | omega | exact Nat.le_refl _⟩, ⟨by (with_reducible repeat (first | refine blk_drewN ?_ _ | refine blk_drew ?_ | refine blk_alloc ?_ _)); exact BK142.out⟩, ⟨by (with_reducible repeat (first | refine blk_drewN ?_ _ | refine blk_drew ?_ | refine blk_alloc ?_ _)); exact BK143.out⟩, ⟨by repeat (first | (with_reducible first | exact HB.out | apply below_alloc | apply pw_below_drewN | apply below_drew1 | refine below_set ?_ GE142.out | refine below_set ?_ GE143.out) | exact HB.out)⟩⟩
              case rest =>
                clear HC44
                try clear c1
                try clear p1
                try clear q1
                try clear hx1
                try clear c2
                try clear p2
                try clear c3
                try clear c3b0
                try clear p3
                try clear q3
                try clear hx3
                try clear c4
                try clear c4b0
                try clear p4
                try clear q4
                try clear hx4
                try clear c5
                try clear p5
                try clear q5
                try clear hx5
                try clear p6
                try clear c7
                try clear c10
                try clear c15
                try clear c15b0
                try clear c16
                try clear c16b0
                try clear p17
                try clear q17
                try clear hx17
                try clear c19
                try clear c22
                try clear c24
                try clear c25
                try clear c27
                try clear c27b0
                try clear c28
                try clear c29
                try clear c31
                try clear p34
                try clear q34
                try clear hx34
                try clear c36
                try clear c37
                try clear c39
                try clear c45
                try clear c45b0
                try clear c46
                try clear c46b0
                try clear p47
                try clear q47
                try clear hx47
                try clear c49
                try clear c52
                try clear hcz11_0
                try clear hcz11_1
                try clear hcz11_2
                try clear hcz11_3
                try clear hcz13_0
                try clear hcz13_1
                try clear hcz13_2
                try clear hcz13_3
                try clear hcz20_0
                try clear hcz20_1
                try clear hcz20_2
                try clear hcz20_3
                try clear hcz23_0
                try clear hcz23_1
                try clear hcz23_2
                try clear hcz23_3
                try clear hcz26_0
                try clear hcz26_1
                try clear hcz26_2
                try clear hcz26_3
                try clear hcz29_0
                try clear hcz29_1
                try clear hcz29_2
                try clear hcz29_3
                try clear hcz30_0
                try clear hcz30_1
                try clear hcz30_2
                try clear hcz30_3
                try clear hcz32_0
                try clear hcz32_1
                try clear hcz32_2
                try clear hcz32_3
                try clear hcz33_0
                try clear hcz33_1
                try clear hcz33_2
                try clear hcz33_3
                try clear hcz40_0
                try clear hcz40_1
                try clear hcz40_2
                try clear hcz40_3
                try clear hcz43_0
                try clear hcz43_1
                try clear hcz43_2
                try clear hcz43_3
                try clear hcz50_0
                try clear hcz50_1
                try clear hcz50_2
                try clear hcz50_3
                try clear hcz53_0
                try clear hcz53_1
                try clear hcz53_2
                try clear hcz53_3
                try clear hfz11_0
                try clear hfz11_1
                try clear hfz11_2
                try clear hfz11_3
                try clear hfz13_0
                try clear hfz13_1
                try clear hfz13_2
                try clear hfz13_3
                try clear hfz20_0
                try clear hfz20_1
                try clear hfz20_2
                try clear hfz20_3
                try clear hfz23_0
                try clear hfz23_1
                try clear hfz23_2
                try clear hfz23_3
                try clear hfz26_0
                try clear hfz26_1
                try clear hfz26_2
                try clear hfz26_3
                try clear hfz29_0
                try clear hfz29_1
                try clear hfz29_2
                try clear hfz29_3
                try clear hfz30_0
                try clear hfz30_1
                try clear hfz30_2
                try clear hfz30_3
                try clear hfz32_0
                try clear hfz32_1
                try clear hfz32_2
                try clear hfz32_3
                try clear hfz33_0
                try clear hfz33_1
                try clear hfz33_2
                try clear hfz33_3
                try clear hfz40_0
                try clear hfz40_1
                try clear hfz40_2
                try clear hfz40_3
                try clear hfz43_0
                try clear hfz43_1
                try clear hfz43_2
                try clear hfz43_3
                try clear hfz50_0
                try clear hfz50_1
                try clear hfz50_2
                try clear hfz50_3
                try clear hfz53_0
                try clear hfz53_1
                try clear hfz53_2
                try clear hfz53_3
                try clear p1
                try clear p17
                try clear p2
                try clear p3
                try clear p34
                try clear p47
                try clear p5
                try clear p6
                try clear q1
                try clear q17
                try clear q3
                try clear q34
                try clear q47
                try clear q5
                obtain ⟨kq, x59_43, rfl, HA, HJ43, BK142, BK143, HB⟩ := hcut
                cases kq with
                | zero => exact absurd HA.out (by simp [selfstabref04_token.j3])
                | succ kj43 =>
                  have H := HA.out
                  clear HA
                  simp only [selfstabref04_token.j3] at H
                  by_cases c54 : x59_43 = true
                  · subst c54
                    have H1 : (selfstabref04_token.l1 kj43 a0 a1 2 a1 (wrap64 (x144002_1 + 1)) 0) = some (r1, r2, r3, r4, r5) := by rw [if_pos rfl] at H; exact H
                    clear H
                    have H := H1
                    clear H1
                    have H' := Aside0.mk H
                    clear H
                    have hnb55 := NB143_142.out
                    have hnc55 := NB142_143.out
                    have hcz56_0 : wc.cell? ⟨gb143, 0, none⟩ = some (.int .i64 2) := (blk_cell BK143.out 0).trans rfl
                    have hcz56_1 : wc.cell? ⟨gb143, 1, none⟩ = some (.int .i64 a1) := (blk_cell BK143.out 1).trans rfl
                    have hcz56_2 : wc.cell? ⟨gb143, 2, none⟩ = some (.int .i64 x144002_1) := (blk_cell BK143.out 2).trans rfl
                    have hcz56_3 : wc.cell? ⟨gb143, 3, none⟩ = some (.int .i64 0) := (blk_cell BK143.out 3).trans rfl
                    have hfz56_0 := blk_frozen BK143.out 0
                    have hfz56_1 := blk_frozen BK143.out 1
                    have hfz56_2 := blk_frozen BK143.out 2
                    have hfz56_3 := blk_frozen BK143.out 3
                    go_wp2
                    go_roundg kj43
                    case measure => have := HK1.out; have := HJ43.out; omega
                    case rel => exact ⟨(wrap64 (x144002_1 + 1)), H', ⟨by have := HK1.out; have := HJ43.out; omega⟩, ⟨by (with_reducible repeat (first | refine blk_drewN ?_ _ | refine blk_drew ?_ | refine blk_alloc ?_ _)); refine blk_far ?_ NB142_143.out _; (with_reducible repeat (first | refine blk_drewN ?_ _ | refine blk_drew ?_ | refine blk_alloc ?_ _)); exact BK142.out⟩, ⟨by (with_reducible repeat (first | refine blk_drewN ?_ _ | refine blk_drew ?_ | refine blk_alloc ?_ _)); refine blk_put (cs := #[.int .i64 2, .int .i64 a1, .int .i64 x144002_1, .int .i64 0]) ?_ 2 _ rfl; (with_reducible repeat (first | refine blk_drewN ?_ _ | refine blk_drew ?_ | refine blk_alloc ?_ _)); exact BK143.out⟩, ⟨by repeat (first | (with_reducible first | exact HB.out | apply below_alloc | apply pw_below_drewN | apply below_drew1 | refine below_set ?_ GE142.out | refine below_set ?_ GE143.out) | exact HB.out)⟩⟩
                  · replace c54 := Bool.eq_false_iff.mpr c54
                    subst c54
                    have H1 : (if 0 ≤ a1 then (if a1 ≤ x144002_1 then (if x144002_1 ≤ (a0.size : Int) then ((selfstabref04_number.f kj43 (a0.extract (a1 : Int).toNat (x144002_1 : Int).toNat)).bind fun bt148 => (if bt148.2 = true then (some (2, a1, x144002_1, bt148.1, 0)) else (some (0, 0, 0, 0, 2)))) else (none)) else (none)) else (none)) = some (r1, r2, r3, r4, r5) := by rw [if_neg (show ¬ (false = true) by decide)] at H; exact H
                    clear H
                    have H := H1
                    clear H1
                    by_cases c57 : 0 ≤ a1
                    · rw [if_pos c57] at H
                      have c57b0 := eq_true c57
                      have c57b1 : decide (0 ≤ a1) = true := decide_eq_true c57
                      clear c57
                      by_cases c58 : a1 ≤ x144002_1
                      · rw [if_pos c58] at H
                        have c58b0 := eq_true c58
                        have c58b1 : decide (a1 ≤ x144002_1) = true := decide_eq_true c58
                        clear c58
                        by_cases c59 : x144002_1 ≤ (a0.size : Int)
                        · rw [if_pos c59] at H
                          have c59b0 := eq_true c59
                          have c59b1 : decide (x144002_1 ≤ (a0.size : Int)) = true := decide_eq_true c59
                          clear c59
                          replace H := Option.bind_eq_some_iff.mp H
                          obtain ⟨⟨t148, t149⟩, A600, H⟩ := H
                          replace H : (if t149 = true then (some (2, a1, x144002_1, t148, 0)) else (some (0, 0, 0, 0, 2))) = some (r1, r2, r3, r4, r5) := H
                          have A60 := Aside0.mk A600
                          clear A600
                          by_cases c61 : t149 = true
                          · subst c61
                            have H1 : (some (2, a1, x144002_1, t148, 0)) = some (r1, r2, r3, r4, r5) := by rw [if_pos rfl] at H; exact H
                            clear H
                            have H := H1
                            clear H1
                            simp only [Option.some.injEq, Prod.mk.injEq] at H
                            obtain ⟨rfl, rfl, rfl, rfl, rfl⟩ := H
                            have hnb62 := NB143_142.out
                            have hnc62 := NB142_143.out
                            have hcz63_0 : wc.cell? ⟨gb143, 0, none⟩ = some (.int .i64 2) := (blk_cell BK143.out 0).trans rfl
                            have hcz63_1 : wc.cell? ⟨gb143, 1, none⟩ = some (.int .i64 a1) := (blk_cell BK143.out 1).trans rfl
                            have hcz63_2 : wc.cell? ⟨gb143, 2, none⟩ = some (.int .i64 x144002_1) := (blk_cell BK143.out 2).trans rfl
                            have hcz63_3 : wc.cell? ⟨gb143, 3, none⟩ = some (.int .i64 0) := (blk_cell BK143.out 3).trans rfl
                            have hfz63_0 := blk_frozen BK143.out 0
                            have hfz63_1 := blk_frozen BK143.out 1
                            have hfz63_2 := blk_frozen BK143.out 2
                            have hfz63_3 := blk_frozen BK143.out 3
                            go_wp2_with (first | ((with_reducible refine gate_callee (f := 38) rfl ?_); refine goesL_ (some 70) rfl rfl Try.func38 (by kernel_rfl) rfl #[.string (a0.extract (a1 : Int).toNat (x144002_1 : Int).toNat)] rfl (by (try simp only [List.map_toArray, List.map_cons, List.map_nil]); first | done | rfl | (simp only [List.length_drop, List.length_take]; rfl)) ?_; (with_reducible refine (selfstabref04_number.calls kj43 (a0.extract (a1 : Int).toNat (x144002_1 : Int).toNat) t148 true _ A60.out).mono ?_); rintro e w64 ⟨rfl, hb⟩; refine ⟨_, rfl, ?_⟩; have n0_ := Aside0.mk (blk_below (g := gb142) (o := .cells #[.int .i64 0, .int .i64 0, .int .i64 0, .int .i64 0] 32 (0, 0)) (by (with_reducible repeat (first | refine blk_drewN ?_ _ | refine blk_drew ?_ | refine blk_alloc ?_ _)); exact BK142.out) hb); have n1_ := Aside0.mk (blk_below (g := gb143) (o := .cells #[.int .i64 2, .int .i64 a1, .int .i64 x144002_1, .int .i64 0] 32 (0, 0)) (by (with_reducible repeat (first | refine blk_drewN ?_ _ | refine blk_drew ?_ | refine blk_alloc ?_ _)); exact BK143.out) hb); have n2_ := Aside0.mk (below_step (by repeat (first | (with_reducible first | exact HB.out | apply below_alloc | apply pw_below_drewN | apply below_drew1 | refine below_set ?_ GE142.out | refine below_set ?_ GE143.out) | exact HB.out)) hb); clear BK142; clear BK143; clear HB; have BK142 := n0_; have BK143 := n1_; have HB := n2_; clear n0_ n1_ n2_; (try clear hb); (try clear hb2); (try clear hk); (try clear hi); have hcz65_0 : w64.cell? ⟨gb143, 0, none⟩ = some (.int .i64 2) := (blk_cell BK143.out 0).trans rfl; have hcz65_1 : w64.cell? ⟨gb143, 1, none⟩ = some (.int .i64 a1) := (blk_cell BK143.out 1).trans rfl; have hcz65_2 : w64.cell? ⟨gb143, 2, none⟩ = some (.int .i64 x144002_1) := (blk_cell BK143.out 2).trans rfl; have hcz65_3 : w64.cell? ⟨gb143, 3, none⟩ = some (.int .i64 0) := (blk_cell BK143.out 3).trans rfl; have hfz65_0 := blk_frozen BK143.out 0; have hfz65_1 := blk_frozen BK143.out 1; have hfz65_2 := blk_frozen BK143.out 2; have hfz65_3 := blk_frozen BK143.out 3; have hcz66_0 : w64.cell? ⟨gb142, 0, none⟩ = some (.int .i64 0) := (blk_cell BK142.out 0).trans rfl; have hcz66_1 : w64.cell? ⟨gb142, 1, none⟩ = some (.int .i64 0) := (blk_cell BK142.out 1).trans rfl; have hcz66_2 : w64.cell? ⟨gb142, 2, none⟩ = some (.int .i64 0) := (blk_cell BK142.out 2).trans rfl; have hcz66_3 : w64.cell? ⟨gb142, 3, none⟩ = some (.int .i64 0) := (blk_cell BK142.out 3).trans rfl; have hfz66_0 := blk_frozen BK142.out 0; have hfz66_1 := blk_frozen BK142.out 1; have hfz66_2 := blk_frozen BK142.out 2; have hfz66_3 := blk_frozen BK142.out 3))
                            refine bodyPost_ret (results_ct rfl _ _ gb142 32 #[.int .i64 2, .int .i64 a1, .int .i64 x144002_1, .int .i64 t148] (0, 0) _ rfl (by (with_reducible repeat (first | refine blk_drewN ?_ _ | refine blk_drew ?_ | refine blk_alloc ?_ _)); refine blk_put (cs := #[.int .i64 2, .int .i64 a1, .int .i64 x144002_1, .int .i64 0]) ?_ 3 _ rfl; (with_reducible repeat (first | refine blk_drewN ?_ _ | refine blk_drew ?_ | refine blk_alloc ?_ _)); refine blk_put (cs := #[.int .i64 2, .int .i64 a1, .int .i64 0, .int .i64 0]) ?_ 2 _ rfl; (with_reducible repeat (first | refine blk_drewN ?_ _ | refine blk_drew ?_ | refine blk_alloc ?_ _)); refine blk_put (cs := #[.int .i64 2, .int .i64 0, .int .i64 0, .int .i64 0]) ?_ 1 _ rfl; (with_reducible repeat (first | refine blk_drewN ?_ _ | refine blk_drew ?_ | refine blk_alloc ?_ _)); refine blk_put (cs := #[.int .i64 0, .int .i64 0, .int .i64 0, .int .i64 0]) ?_ 0 _ rfl; (with_reducible repeat (first | refine blk_drewN ?_ _ | refine blk_drew ?_ | refine blk_alloc ?_ _)); refine blk_far ?_ NB142_143.out _; (with_reducible repeat (first | refine blk_drewN ?_ _ | refine blk_drew ?_ | refine blk_alloc ?_ _)); exact BK142.out) Try.underlying32 rfl (by kernel_rfl)) rfl ?_
                            exact ⟨by first | rfl | (simp [errW_none, errW_some] <;> rfl) | (simp [*, errW_none, errW_some] <;> rfl), by repeat (first | (with_reducible first | exact HB.out | apply below_alloc | apply pw_below_drewN | apply below_drew1 | refine below_set ?_ GE142.out | refine below_set ?_ GE143.out) | exact HB.out)⟩
                          · replace c61 := Bool.eq_false_iff.mpr c61
                            subst c61
                            have H1 : (some (0, 0, 0, 0, 2)) = some (r1, r2, r3, r4, r5) := by rw [if_neg (show ¬ (false = true) by decide)] at H; exact H
                            clear H
                            have H := H1
                            clear H1
                            simp only [Option.some.injEq, Prod.mk.injEq] at H
                            obtain ⟨rfl, rfl, rfl, rfl, rfl⟩ := H
                            have hnb67 := NB143_142.out
                            have hnc67 := NB142_143.out
                            have hcz68_0 : wc.cell? ⟨gb143, 0, none⟩ = some (.int .i64 2) := (blk_cell BK143.out 0).trans rfl
                            have hcz68_1 : wc.cell? ⟨gb143, 1, none⟩ = some (.int .i64 a1) := (blk_cell BK143.out 1).trans rfl
                            have hcz68_2 : wc.cell? ⟨gb143, 2, none⟩ = some (.int .i64 x144002_1) := (blk_cell BK143.out 2).trans rfl
                            have hcz68_3 : wc.cell? ⟨gb143, 3, none⟩ = some (.int .i64 0) := (blk_cell BK143.out 3).trans rfl
                            have hfz68_0 := blk_frozen BK143.out 0
                            have hfz68_1 := blk_frozen BK143.out 1
                            have hfz68_2 := blk_frozen BK143.out 2
                            have hfz68_3 := blk_frozen BK143.out 3
                            go_wp2_with (first | ((with_reducible refine gate_callee (f := 38) rfl ?_); refine goesL_ (some 70) rfl rfl Try.func38 (by kernel_rfl) rfl #[.string (a0.extract (a1 : Int).toNat (x144002_1 : Int).toNat)] rfl (by (try simp only [List.map_toArray, List.map_cons, List.map_nil]); first | done | rfl | (simp only [List.length_drop, List.length_take]; rfl)) ?_; (with_reducible refine (selfstabref04_number.calls kj43 (a0.extract (a1 : Int).toNat (x144002_1 : Int).toNat) t148 false _ A60.out).mono ?_); rintro e w69 ⟨rfl, hb⟩; refine ⟨_, rfl, ?_⟩; have n0_ := Aside0.mk (blk_below (g := gb142) (o := .cells #[.int .i64 0, .int .i64 0, .int .i64 0, .int .i64 0] 32 (0, 0)) (by (with_reducible repeat (first | refine blk_drewN ?_ _ | refine blk_drew ?_ | refine blk_alloc ?_ _)); exact BK142.out) hb); have n1_ := Aside0.mk (blk_below (g := gb143) (o := .cells #[.int .i64 2, .int .i64 a1, .int .i64 x144002_1, .int .i64 0] 32 (0, 0)) (by (with_reducible repeat (first | refine blk_drewN ?_ _ | refine blk_drew ?_ | refine blk_alloc ?_ _)); exact BK143.out) hb); have n2_ := Aside0.mk (below_step (by repeat (first | (with_reducible first | exact HB.out | apply below_alloc | apply pw_below_drewN | apply below_drew1 | refine below_set ?_ GE142.out | refine below_set ?_ GE143.out) | exact HB.out)) hb); clear BK142; clear BK143; clear HB; have BK142 := n0_; have BK143 := n1_; have HB := n2_; clear n0_ n1_ n2_; (try clear hb); (try clear hb2); (try clear hk); (try clear hi); have hcz70_0 : w69.cell? ⟨gb142, 0, none⟩ = some (.int .i64 0) := (blk_cell BK142.out 0).trans rfl; have hcz70_1 : w69.cell? ⟨gb142, 1, none⟩ = some (.int .i64 0) := (blk_cell BK142.out 1).trans rfl; have hcz70_2 : w69.cell? ⟨gb142, 2, none⟩ = some (.int .i64 0) := (blk_cell BK142.out 2).trans rfl; have hcz70_3 : w69.cell? ⟨gb142, 3, none⟩ = some (.int .i64 0) := (blk_cell BK142.out 3).trans rfl; have hfz70_0 := blk_frozen BK142.out 0; have hfz70_1 := blk_frozen BK142.out 1; have hfz70_2 := blk_frozen BK142.out 2; have hfz70_3 := blk_frozen BK142.out 3))
                            refine bodyPost_ret (results_ct rfl _ _ gb142 32 #[.int .i64 0, .int .i64 0, .int .i64 0, .int .i64 0] (0, 0) _ rfl (by (with_reducible repeat (first | refine blk_drewN ?_ _ | refine blk_drew ?_ | refine blk_alloc ?_ _)); refine blk_put (cs := #[.int .i64 0, .int .i64 0, .int .i64 0, .int .i64 0]) ?_ 3 _ rfl; (with_reducible repeat (first | refine blk_drewN ?_ _ | refine blk_drew ?_ | refine blk_alloc ?_ _)); refine blk_put (cs := #[.int .i64 0, .int .i64 0, .int .i64 0, .int .i64 0]) ?_ 2 _ rfl; (with_reducible repeat (first | refine blk_drewN ?_ _ | refine blk_drew ?_ | refine blk_alloc ?_ _)); refine blk_put (cs := #[.int .i64 0, .int .i64 0, .int .i64 0, .int .i64 0]) ?_ 1 _ rfl; (with_reducible repeat (first | refine blk_drewN ?_ _ | refine blk_drew ?_ | refine blk_alloc ?_ _)); refine blk_put (cs := #[.int .i64 0, .int .i64 0, .int .i64 0, .int .i64 0]) ?_ 0 _ rfl; (with_reducible repeat (first | refine blk_drewN ?_ _ | refine blk_drew ?_ | refine blk_alloc ?_ _)); exact BK142.out) Try.underlying32 rfl (by kernel_rfl)) rfl ?_
                            exact ⟨by first | rfl | (simp [errW_none, errW_some] <;> rfl) | (simp [*, errW_none, errW_some] <;> rfl), by repeat (first | (with_reducible first | exact HB.out | apply below_alloc | apply pw_below_drewN | apply below_drew1 | refine below_set ?_ GE142.out | refine below_set ?_ GE143.out) | exact HB.out)⟩
                        · rw [if_neg c59] at H
                          exact absurd H (by simp)
                      · rw [if_neg c58] at H
                        exact absurd H (by simp)
                    · rw [if_neg c57] at H
                      exact absurd H (by simp)
        · replace c36 := Bool.eq_false_iff.mpr c36
          subst c36
          have H1 : ((selfstabref04_sign.f k a0 a1).bind fun t150 => (if t150 > 0 then ((selfstabref04_sign.f k a0 a1).bind fun t150 => (some (3, a1, wrap64 (a1 + t150), 0, 0))) else (some (0, 0, 0, 0, 4)))) = some (r1, r2, r3, r4, r5) := by rw [if_neg (show ¬ (false = true) by decide)] at H; exact H
          clear H
          have H := H1
          clear H1
          replace H := Option.bind_eq_some_iff.mp H
          obtain ⟨t150, A710, H⟩ := H
          replace H : (if t150 > 0 then ((selfstabref04_sign.f k a0 a1).bind fun t150 => (some (3, a1, wrap64 (a1 + t150), 0, 0))) else (some (0, 0, 0, 0, 4))) = some (r1, r2, r3, r4, r5) := H
          have A71 := Aside0.mk A710
          clear A710
          by_cases c72 : t150 > 0
          · rw [if_pos c72] at H
            have c72b0 : decide (0 < t150) = true := decide_eq_true c72
            clear c72
            replace H := Option.bind_eq_some_iff.mp H
            obtain ⟨tx150_, A730, H⟩ := H
            have ex_ : t150 = tx150_ := Option.some.inj (A71.out.symm.trans A730)
            subst ex_
            replace H : (some (3, a1, wrap64 (a1 + t150), 0, 0)) = some (r1, r2, r3, r4, r5) := H
            have A73 := Aside0.mk A730
            clear A730
            simp only [Option.some.injEq, Prod.mk.injEq] at H
            obtain ⟨rfl, rfl, rfl, rfl, rfl⟩ := H
            go_enter Try.func24, Try.ntmps24
            go_wp2_with (first | ((with_reducible refine gate_dst (N := 4) rfl ?_); refine box_event ?hg (N := 4) ?hd (cs := #[.int .i64 0, .int .i64 0, .int .i64 0, .int .i64 0]) (t := 32) ?hr ?_; (case hd => rfl); (case hg => rfl); (case hr => first | (go_simp; done) | (go_simp; rfl)); intro gb142 hg w74 hbox hb; have n0_ := Aside0.mk (below_step (by repeat (first | (with_reducible first | exact HB.out | apply below_alloc | apply pw_below_drewN | apply below_drew1) | exact HB.out)) hb); have n1_ := Aside0.mk (hbox); have n2_ := Aside0.mk ((by rw [hg]; exact (below_size (by repeat (first | (with_reducible first | exact HB.out | apply below_alloc | apply pw_below_drewN | apply below_drew1) | exact HB.out))) : w.heap.size ≤ gb142)); have n3_ := Aside0.mk ((by rw [hg]; exact (below_size (by repeat (first | (with_reducible first | exact HB.out | apply below_alloc | apply pw_below_drewN | apply below_drew1) | exact HB.out))) : w.heap.size ≤ gb142)); clear HB; have HB := n0_; have BK142 := n1_; have GW142 := n2_; have GE142 := n3_; clear n0_ n1_ n2_ n3_; clear hb hbox hg) | ((with_reducible refine gate_dst (N := 6) rfl ?_); refine box_event ?hg (N := 6) ?hd (cs := #[.int .i64 0, .int .i64 0, .int .i64 0, .int .i64 0]) (t := 32) ?hr ?_; (case hd => rfl); (case hg => rfl); (case hr => first | (go_simp; done) | (go_simp; rfl)); intro gb143 hg w75 hbox hb; have n0_ := Aside0.mk (blk_below (g := gb142) (o := .cells #[.int .i64 0, .int .i64 0, .int .i64 0, .int .i64 0] 32 (0, 0)) (by (with_reducible repeat (first | refine blk_drewN ?_ _ | refine blk_drew ?_ | refine blk_alloc ?_ _)); exact BK142.out) hb); have n1_ := Aside0.mk (below_step (by repeat (first | (with_reducible first | exact HB.out | apply below_alloc | apply pw_below_drewN | apply below_drew1 | refine below_set ?_ GE142.out) | exact HB.out)) hb); have n2_ := Aside0.mk (hbox); have n3_ := Aside0.mk ((by rw [hg]; exact (below_size (by repeat (first | (with_reducible first | exact HB.out | apply below_alloc | apply pw_below_drewN | apply below_drew1 | refine below_set ?_ GE142.out) | exact HB.out))) : w.heap.size ≤ gb143)); have n4_ := Aside0.mk ((by rw [hg]; exact (below_size (by repeat (first | (with_reducible first | exact HB.out | apply below_alloc | apply pw_below_drewN | apply below_drew1 | refine below_set ?_ GE142.out) | exact HB.out))) : w.heap.size ≤ gb143)); have n5_ := Aside0.mk ((by rw [hg]; exact Nat.ne_of_lt (blk_lt (g := gb142) (o := .cells #[.int .i64 0, .int .i64 0, .int .i64 0, .int .i64 0] 32 (0, 0)) (by (with_reducible repeat (first | refine blk_drewN ?_ _ | refine blk_drew ?_ | refine blk_alloc ?_ _)); exact BK142.out)) : gb142 ≠ gb143)); have n6_ := Aside0.mk ((by rw [hg]; exact Nat.ne_of_gt (blk_lt (g := gb142) (o := .cells #[.int .i64 0, .int .i64 0, .int .i64 0, .int .i64 0] 32 (0, 0)) (by (with_reducible repeat (first | refine blk_drewN ?_ _ | refine blk_drew ?_ | refine blk_alloc ?_ _)); exact BK142.out)) : gb143 ≠ gb142)); clear BK142; clear HB; have BK142 := n0_; have HB := n1_; have BK143 := n2_; have GW143 := n3_; have GE143 := n4_; have NB142_143 := n5_; have NB143_142 := n6_; clear n0_ n1_ n2_ n3_ n4_ n5_ n6_; clear hb hbox hg; have hnb76 := NB143_142.out; have hnc76 := NB142_143.out; have hcz77_0 : w75.cell? ⟨gb143, 0, none⟩ = some (.int .i64 0) := (blk_cell BK143.out 0).trans rfl; have hcz77_1 : w75.cell? ⟨gb143, 1, none⟩ = some (.int .i64 0) := (blk_cell BK143.out 1).trans rfl; have hcz77_2 : w75.cell? ⟨gb143, 2, none⟩ = some (.int .i64 0) := (blk_cell BK143.out 2).trans rfl; have hcz77_3 : w75.cell? ⟨gb143, 3, none⟩ = some (.int .i64 0) := (blk_cell BK143.out 3).trans rfl; have hfz77_0 := blk_frozen BK143.out 0; have hfz77_1 := blk_frozen BK143.out 1; have hfz77_2 := blk_frozen BK143.out 2; have hfz77_3 := blk_frozen BK143.out 3; have p5 : 0 ≤ (a1 : Int) := of_decide_eq_true (by first | (with_reducible assumption) | assumption); have q5 : a1 < (a0.size : Int) := of_decide_eq_true (by first | (with_reducible assumption) | assumption); have hx5 := bt_at a0 a1; replace p5 := eq_true p5; replace q5 := eq_true q5) | ((with_reducible refine gate_callee (f := 29) rfl ?_); refine goesL_ (some 18) rfl rfl Try.func29 (by kernel_rfl) rfl #[.int .u8 (bt a0 a1)] rfl (by (try simp only [List.map_toArray, List.map_cons, List.map_nil]); first | done | rfl | (simp only [List.length_drop, List.length_take]; rfl)) ?_; (with_reducible refine (selfstabref04_Letter.calls (bt a0 a1) false _ A6.out).mono ?_); rintro e w78 ⟨rfl, hb⟩; refine ⟨_, rfl, ?_⟩; have n0_ := Aside0.mk (blk_below (g := gb142) (o := .cells #[.int .i64 0, .int .i64 0, .int .i64 0, .int .i64 0] 32 (0, 0)) (by (with_reducible repeat (first | refine blk_drewN ?_ _ | refine blk_drew ?_ | refine blk_alloc ?_ _)); refine blk_far ?_ NB142_143.out _; (with_reducible repeat (first | refine blk_drewN ?_ _ | refine blk_drew ?_ | refine blk_alloc ?_ _)); refine blk_far ?_ NB142_143.out _; (with_reducible repeat (first | refine blk_drewN ?_ _ | refine blk_drew ?_ | refine blk_alloc ?_ _)); refine blk_far ?_ NB142_143.out _; (with_reducible repeat (first | refine blk_drewN ?_ _ | refine blk_drew ?_ | refine blk_alloc ?_ _)); refine blk_far ?_ NB142_143.out _; (with_reducible repeat (first | refine blk_drewN ?_ _ | refine blk_drew ?_ | refine blk_alloc ?_ _)); exact BK142.out) hb); have n1_ := Aside0.mk (blk_below (g := gb143) (o := .cells #[.int .i64 0, .int .i64 a1, .int .i64 (wrap64 (a1 + 1)), .int .i64 0] 32 (0, 0)) (by (with_reducible repeat (first | refine blk_drewN ?_ _ | refine blk_drew ?_ | refine blk_alloc ?_ _)); refine blk_put (cs := #[.int .i64 0, .int .i64 a1, .int .i64 (wrap64 (a1 + 1)), .int .i64 0]) ?_ 3 _ rfl; (with_reducible repeat (first | refine blk_drewN ?_ _ | refine blk_drew ?_ | refine blk_alloc ?_ _)); refine blk_put (cs := #[.int .i64 0, .int .i64 a1, .int .i64 0, .int .i64 0]) ?_ 2 _ rfl; (with_reducible repeat (first | refine blk_drewN ?_ _ | refine blk_drew ?_ | refine blk_alloc ?_ _)); refine blk_put (cs := #[.int .i64 0, .int .i64 0, .int .i64 0, .int .i64 0]) ?_ 1 _ rfl; (with_reducible repeat (first | refine blk_drewN ?_ _ | refine blk_drew ?_ | refine blk_alloc ?_ _)); refine blk_put (cs := #[.int .i64 0, .int .i64 0, .int .i64 0, .int .i64 0]) ?_ 0 _ rfl; (with_reducible repeat (first | refine blk_drewN ?_ _ | refine blk_drew ?_ | refine blk_alloc ?_ _)); exact BK143.out) hb); have n2_ := Aside0.mk (below_step (by repeat (first | (with_reducible first | exact HB.out | apply below_alloc | apply pw_below_drewN | apply below_drew1 | refine below_set ?_ GE142.out | refine below_set ?_ GE143.out) | exact HB.out)) hb); clear BK142; clear BK143; clear HB; have BK142 := n0_; have BK143 := n1_; have HB := n2_; clear n0_ n1_ n2_; (try clear hb); (try clear hb2); (try clear hk); (try clear hi); have p34 : 0 ≤ (a1 : Int) := of_decide_eq_true (by first | (with_reducible assumption) | assumption); have q34 : a1 < (a0.size : Int) := of_decide_eq_true (by first | (with_reducible assumption) | assumption); have hx34 := bt_at a0 a1; replace p34 := eq_true p34; replace q34 := eq_true q34) | ((with_reducible refine gate_callee (f := 37) rfl ?_); refine goesL_ (some 46) rfl rfl Try.func37 (by kernel_rfl) rfl #[.int .u8 (bt a0 a1)] rfl (by (try simp only [List.map_toArray, List.map_cons, List.map_nil]); first | done | rfl | (simp only [List.length_drop, List.length_take]; rfl)) ?_; (with_reducible refine (selfstabref04_Digit.calls (bt a0 a1) false _ A35.out).mono ?_); rintro e w79 ⟨rfl, hb⟩; refine ⟨_, rfl, ?_⟩; have n0_ := Aside0.mk (blk_below (g := gb142) (o := .cells #[.int .i64 0, .int .i64 0, .int .i64 0, .int .i64 0] 32 (0, 0)) (by (with_reducible repeat (first | refine blk_drewN ?_ _ | refine blk_drew ?_ | refine blk_alloc ?_ _)); exact BK142.out) hb); have n1_ := Aside0.mk (blk_below (g := gb143) (o := .cells #[.int .i64 0, .int .i64 a1, .int .i64 (wrap64 (a1 + 1)), .int .i64 0] 32 (0, 0)) (by (with_reducible repeat (first | refine blk_drewN ?_ _ | refine blk_drew ?_ | refine blk_alloc ?_ _)); exact BK143.out) hb); have n2_ := Aside0.mk (below_step (by repeat (first | (with_reducible first | exact HB.out | apply below_alloc | apply pw_below_drewN | apply below_drew1 | refine below_set ?_ GE142.out | refine below_set ?_ GE143.out) | exact HB.out)) hb); clear BK142; clear BK143; clear HB; have BK142 := n0_; have BK143 := n1_; have HB := n2_; clear n0_ n1_ n2_; (try clear hb); (try clear hb2); (try clear hk); (try clear hi)) | ((with_reducible refine gate_callee (f := 39) rfl ?_); refine goesL_ (some 81) rfl rfl Try.func39 (by kernel_rfl) rfl #[.string a0, .int .i64 a1] rfl (by (try simp only [List.map_toArray, List.map_cons, List.map_nil]); first | done | rfl | (simp only [List.length_drop, List.length_take]; rfl)) ?_; (with_reducible refine (selfstabref04_sign.calls k a0 a1 t150 _ A71.out).mono ?_); rintro e w80 ⟨rfl, hb⟩; refine ⟨_, rfl, ?_⟩; have n0_ := Aside0.mk (blk_below (g := gb142) (o := .cells #[.int .i64 0, .int .i64 0, .int .i64 0, .int .i64 0] 32 (0, 0)) (by (with_reducible repeat (first | refine blk_drewN ?_ _ | refine blk_drew ?_ | refine blk_alloc ?_ _)); exact BK142.out) hb); have n1_ := Aside0.mk (blk_below (g := gb143) (o := .cells #[.int .i64 0, .int .i64 a1, .int .i64 (wrap64 (a1 + 1)), .int .i64 0] 32 (0, 0)) (by (with_reducible repeat (first | refine blk_drewN ?_ _ | refine blk_drew ?_ | refine blk_alloc ?_ _)); exact BK143.out) hb); have n2_ := Aside0.mk (below_step (by repeat (first | (with_reducible first | exact HB.out | apply below_alloc | apply pw_below_drewN | apply below_drew1 | refine below_set ?_ GE142.out | refine below_set ?_ GE143.out) | exact HB.out)) hb); clear BK142; clear BK143; clear HB; have BK142 := n0_; have BK143 := n1_; have HB := n2_; clear n0_ n1_ n2_; (try clear hb); (try clear hb2); (try clear hk); (try clear hi)) | ((with_reducible refine gate_callee (f := 39) rfl ?_); refine goesL_ (some 86) rfl rfl Try.func39 (by kernel_rfl) rfl #[.string a0, .int .i64 a1] rfl (by (try simp only [List.map_toArray, List.map_cons, List.map_nil]); first | done | rfl | (simp only [List.length_drop, List.length_take]; rfl)) ?_; (with_reducible refine (selfstabref04_sign.calls k a0 a1 t150 _ A73.out).mono ?_); rintro e w81 ⟨rfl, hb⟩; refine ⟨_, rfl, ?_⟩; have n0_ := Aside0.mk (blk_below (g := gb142) (o := .cells #[.int .i64 0, .int .i64 0, .int .i64 0, .int .i64 0] 32 (0, 0)) (by (with_reducible repeat (first | refine blk_drewN ?_ _ | refine blk_drew ?_ | refine blk_alloc ?_ _)); exact BK142.out) hb); have n1_ := Aside0.mk (blk_below (g := gb143) (o := .cells #[.int .i64 0, .int .i64 a1, .int .i64 (wrap64 (a1 + 1)), .int .i64 0] 32 (0, 0)) (by (with_reducible repeat (first | refine blk_drewN ?_ _ | refine blk_drew ?_ | refine blk_alloc ?_ _)); exact BK143.out) hb); have n2_ := Aside0.mk (below_step (by repeat (first | (with_reducible first | exact HB.out | apply below_alloc | apply pw_below_drewN | apply below_drew1 | refine below_set ?_ GE142.out | refine below_set ?_ GE143.out) | exact HB.out)) hb); clear BK142; clear BK143; clear HB; have BK142 := n0_; have BK143 := n1_; have HB := n2_; clear n0_ n1_ n2_; (try clear hb); (try clear hb2); (try clear hk); (try clear hi); have hcz82_0 : w81.cell? ⟨gb143, 0, none⟩ = some (.int .i64 0) := (blk_cell BK143.out 0).trans rfl; have hcz82_1 : w81.cell? ⟨gb143, 1, none⟩ = some (.int .i64 a1) := (blk_cell BK143.out 1).trans rfl; have hcz82_2 : w81.cell? ⟨gb143, 2, none⟩ = some (.int .i64 (wrap64 (a1 + 1))) := (blk_cell BK143.out 2).trans rfl; have hcz82_3 : w81.cell? ⟨gb143, 3, none⟩ = some (.int .i64 0) := (blk_cell BK143.out 3).trans rfl; have hfz82_0 := blk_frozen BK143.out 0; have hfz82_1 := blk_frozen BK143.out 1; have hfz82_2 := blk_frozen BK143.out 2; have hfz82_3 := blk_frozen BK143.out 3; have hcz83_0 : w81.cell? ⟨gb142, 0, none⟩ = some (.int .i64 0) := (blk_cell BK142.out 0).trans rfl; have hcz83_1 : w81.cell? ⟨gb142, 1, none⟩ = some (.int .i64 0) := (blk_cell BK142.out 1).trans rfl; have hcz83_2 : w81.cell? ⟨gb142, 2, none⟩ = some (.int .i64 0) := (blk_cell BK142.out 2).trans rfl; have hcz83_3 : w81.cell? ⟨gb142, 3, none⟩ = some (.int .i64 0) := (blk_cell BK142.out 3).trans rfl; have hfz83_0 := blk_frozen BK142.out 0; have hfz83_1 := blk_frozen BK142.out 1; have hfz83_2 := blk_frozen BK142.out 2; have hfz83_3 := blk_frozen BK142.out 3))
            refine bodyPost_ret (results_ct rfl _ _ gb142 32 #[.int .i64 3, .int .i64 a1, .int .i64 (wrap64 (a1 + t150)), .int .i64 0] (0, 0) _ rfl (by (with_reducible repeat (first | refine blk_drewN ?_ _ | refine blk_drew ?_ | refine blk_alloc ?_ _)); refine blk_put (cs := #[.int .i64 3, .int .i64 a1, .int .i64 (wrap64 (a1 + t150)), .int .i64 0]) ?_ 3 _ rfl; (with_reducible repeat (first | refine blk_drewN ?_ _ | refine blk_drew ?_ | refine blk_alloc ?_ _)); refine blk_put (cs := #[.int .i64 3, .int .i64 a1, .int .i64 0, .int .i64 0]) ?_ 2 _ rfl; (with_reducible repeat (first | refine blk_drewN ?_ _ | refine blk_drew ?_ | refine blk_alloc ?_ _)); refine blk_put (cs := #[.int .i64 3, .int .i64 0, .int .i64 0, .int .i64 0]) ?_ 1 _ rfl; (with_reducible repeat (first | refine blk_drewN ?_ _ | refine blk_drew ?_ | refine blk_alloc ?_ _)); refine blk_put (cs := #[.int .i64 0, .int .i64 0, .int .i64 0, .int .i64 0]) ?_ 0 _ rfl; (with_reducible repeat (first | refine blk_drewN ?_ _ | refine blk_drew ?_ | refine blk_alloc ?_ _)); refine blk_far ?_ NB142_143.out _; (with_reducible repeat (first | refine blk_drewN ?_ _ | refine blk_drew ?_ | refine blk_alloc ?_ _)); refine blk_far ?_ NB142_143.out _; (with_reducible repeat (first | refine blk_drewN ?_ _ | refine blk_drew ?_ | refine blk_alloc ?_ _)); exact BK142.out) Try.underlying32 rfl (by kernel_rfl)) rfl ?_
            exact ⟨by first | rfl | (simp [errW_none, errW_some] <;> rfl) | (simp [*, errW_none, errW_some] <;> rfl), by repeat (first | (with_reducible first | exact HB.out | apply below_alloc | apply pw_below_drewN | apply below_drew1 | refine below_set ?_ GE142.out | refine below_set ?_ GE143.out) | exact HB.out)⟩
          · rw [if_neg c72] at H
            have c72b0 : decide (0 < t150) = false := decide_eq_false c72
            clear c72
            simp only [Option.some.injEq, Prod.mk.injEq] at H
            obtain ⟨rfl, rfl, rfl, rfl, rfl⟩ := H
            go_enter Try.func24, Try.ntmps24
            go_wp2_with (first | ((with_reducible refine gate_dst (N := 4) rfl ?_); refine box_event ?hg (N := 4) ?hd (cs := #[.int .i64 0, .int .i64 0, .int .i64 0, .int .i64 0]) (t := 32) ?hr ?_; (case hd => rfl); (case hg => rfl); (case hr => first | (go_simp; done) | (go_simp; rfl)); intro gb142 hg w84 hbox hb; have n0_ := Aside0.mk (below_step (by repeat (first | (with_reducible first | exact HB.out | apply below_alloc | apply pw_below_drewN | apply below_drew1) | exact HB.out)) hb); have n1_ := Aside0.mk (hbox); have n2_ := Aside0.mk ((by rw [hg]; exact (below_size (by repeat (first | (with_reducible first | exact HB.out | apply below_alloc | apply pw_below_drewN | apply below_drew1) | exact HB.out))) : w.heap.size ≤ gb142)); have n3_ := Aside0.mk ((by rw [hg]; exact (below_size (by repeat (first | (with_reducible first | exact HB.out | apply below_alloc | apply pw_below_drewN | apply below_drew1) | exact HB.out))) : w.heap.size ≤ gb142)); clear HB; have HB := n0_; have BK142 := n1_; have GW142 := n2_; have GE142 := n3_; clear n0_ n1_ n2_ n3_; clear hb hbox hg) | ((with_reducible refine gate_dst (N := 6) rfl ?_); refine box_event ?hg (N := 6) ?hd (cs := #[.int .i64 0, .int .i64 0, .int .i64 0, .int .i64 0]) (t := 32) ?hr ?_; (case hd => rfl); (case hg => rfl); (case hr => first | (go_simp; done) | (go_simp; rfl)); intro gb143 hg w85 hbox hb; have n0_ := Aside0.mk (blk_below (g := gb142) (o := .cells #[.int .i64 0, .int .i64 0, .int .i64 0, .int .i64 0] 32 (0, 0)) (by (with_reducible repeat (first | refine blk_drewN ?_ _ | refine blk_drew ?_ | refine blk_alloc ?_ _)); exact BK142.out) hb); have n1_ := Aside0.mk (below_step (by repeat (first | (with_reducible first | exact HB.out | apply below_alloc | apply pw_below_drewN | apply below_drew1 | refine below_set ?_ GE142.out) | exact HB.out)) hb); have n2_ := Aside0.mk (hbox); have n3_ := Aside0.mk ((by rw [hg]; exact (below_size (by repeat (first | (with_reducible first | exact HB.out | apply below_alloc | apply pw_below_drewN | apply below_drew1 | refine below_set ?_ GE142.out) | exact HB.out))) : w.heap.size ≤ gb143)); have n4_ := Aside0.mk ((by rw [hg]; exact (below_size (by repeat (first | (with_reducible first | exact HB.out | apply below_alloc | apply pw_below_drewN | apply below_drew1 | refine below_set ?_ GE142.out) | exact HB.out))) : w.heap.size ≤ gb143)); have n5_ := Aside0.mk ((by rw [hg]; exact Nat.ne_of_lt (blk_lt (g := gb142) (o := .cells #[.int .i64 0, .int .i64 0, .int .i64 0, .int .i64 0] 32 (0, 0)) (by (with_reducible repeat (first | refine blk_drewN ?_ _ | refine blk_drew ?_ | refine blk_alloc ?_ _)); exact BK142.out)) : gb142 ≠ gb143)); have n6_ := Aside0.mk ((by rw [hg]; exact Nat.ne_of_gt (blk_lt (g := gb142) (o := .cells #[.int .i64 0, .int .i64 0, .int .i64 0, .int .i64 0] 32 (0, 0)) (by (with_reducible repeat (first | refine blk_drewN ?_ _ | refine blk_drew ?_ | refine blk_alloc ?_ _)); exact BK142.out)) : gb143 ≠ gb142)); clear BK142; clear HB; have BK142 := n0_; have HB := n1_; have BK143 := n2_; have GW143 := n3_; have GE143 := n4_; have NB142_143 := n5_; have NB143_142 := n6_; clear n0_ n1_ n2_ n3_ n4_ n5_ n6_; clear hb hbox hg; have hnb86 := NB143_142.out; have hnc86 := NB142_143.out; have hcz87_0 : w85.cell? ⟨gb143, 0, none⟩ = some (.int .i64 0) := (blk_cell BK143.out 0).trans rfl; have hcz87_1 : w85.cell? ⟨gb143, 1, none⟩ = some (.int .i64 0) := (blk_cell BK143.out 1).trans rfl; have hcz87_2 : w85.cell? ⟨gb143, 2, none⟩ = some (.int .i64 0) := (blk_cell BK143.out 2).trans rfl; have hcz87_3 : w85.cell? ⟨gb143, 3, none⟩ = some (.int .i64 0) := (blk_cell BK143.out 3).trans rfl; have hfz87_0 := blk_frozen BK143.out 0; have hfz87_1 := blk_frozen BK143.out 1; have hfz87_2 := blk_frozen BK143.out 2; have hfz87_3 := blk_frozen BK143.out 3; have p5 : 0 ≤ (a1 : Int) := of_decide_eq_true (by first | (with_reducible assumption) | assumption); have q5 : a1 < (a0.size : Int) := of_decide_eq_true (by first | (with_reducible assumption) | assumption); have hx5 := bt_at a0 a1; replace p5 := eq_true p5; replace q5 := eq_true q5) | ((with_reducible refine gate_callee (f := 29) rfl ?_); refine goesL_ (some 18) rfl rfl Try.func29 (by kernel_rfl) rfl #[.int .u8 (bt a0 a1)] rfl (by (try simp only [List.map_toArray, List.map_cons, List.map_nil]); first | done | rfl | (simp only [List.length_drop, List.length_take]; rfl)) ?_; (with_reducible refine (selfstabref04_Letter.calls (bt a0 a1) false _ A6.out).mono ?_); rintro e w88 ⟨rfl, hb⟩; refine ⟨_, rfl, ?_⟩; have n0_ := Aside0.mk (blk_below (g := gb142) (o := .cells #[.int .i64 0, .int .i64 0, .int .i64 0, .int .i64 0] 32 (0, 0)) (by (with_reducible repeat (first | refine blk_drewN ?_ _ | refine blk_drew ?_ | refine blk_alloc ?_ _)); refine blk_far ?_ NB142_143.out _; (with_reducible repeat (first | refine blk_drewN ?_ _ | refine blk_drew ?_ | refine blk_alloc ?_ _)); refine blk_far ?_ NB142_143.out _; (with_reducible repeat (first | refine blk_drewN ?_ _ | refine blk_drew ?_ | refine blk_alloc ?_ _)); refine blk_far ?_ NB142_143.out _; (with_reducible repeat (first | refine blk_drewN ?_ _ | refine blk_drew ?_ | refine blk_alloc ?_ _)); refine blk_far ?_ NB142_143.out _; (with_reducible repeat (first | refine blk_drewN ?_ _ | refine blk_drew ?_ | refine blk_alloc ?_ _)); exact BK142.out) hb); have n1_ := Aside0.mk (blk_below (g := gb143) (o := .cells #[.int .i64 0, .int .i64 a1, .int .i64 (wrap64 (a1 + 1)), .int .i64 0] 32 (0, 0)) (by (with_reducible repeat (first | refine blk_drewN ?_ _ | refine blk_drew ?_ | refine blk_alloc ?_ _)); refine blk_put (cs := #[.int .i64 0, .int .i64 a1, .int .i64 (wrap64 (a1 + 1)), .int .i64 0]) ?_ 3 _ rfl; (with_reducible repeat (first | refine blk_drewN ?_ _ | refine blk_drew ?_ | refine blk_alloc ?_ _)); refine blk_put (cs := #[.int .i64 0, .int .i64 a1, .int .i64 0, .int .i64 0]) ?_ 2 _ rfl; (with_reducible repeat (first | refine blk_drewN ?_ _ | refine blk_drew ?_ | refine blk_alloc ?_ _)); refine blk_put (cs := #[.int .i64 0, .int .i64 0, .int .i64 0, .int .i64 0]) ?_ 1 _ rfl; (with_reducible repeat (first | refine blk_drewN ?_ _ | refine blk_drew ?_ | refine blk_alloc ?_ _)); refine blk_put (cs := #[.int .i64 0, .int .i64 0, .int .i64 0, .int .i64 0]) ?_ 0 _ rfl; (with_reducible repeat (first | refine blk_drewN ?_ _ | refine blk_drew ?_ | refine blk_alloc ?_ _)); exact BK143.out) hb); have n2_ := Aside0.mk (below_step (by repeat (first | (with_reducible first | exact HB.out | apply below_alloc | apply pw_below_drewN | apply below_drew1 | refine below_set ?_ GE142.out | refine below_set ?_ GE143.out) | exact HB.out)) hb); clear BK142; clear BK143; clear HB; have BK142 := n0_; have BK143 := n1_; have HB := n2_; clear n0_ n1_ n2_; (try clear hb); (try clear hb2); (try clear hk); (try clear hi); have p34 : 0 ≤ (a1 : Int) := of_decide_eq_true (by first | (with_reducible assumption) | assumption); have q34 : a1 < (a0.size : Int) := of_decide_eq_true (by first | (with_reducible assumption) | assumption); have hx34 := bt_at a0 a1; replace p34 := eq_true p34; replace q34 := eq_true q34) | ((with_reducible refine gate_callee (f := 37) rfl ?_); refine goesL_ (some 46) rfl rfl Try.func37 (by kernel_rfl) rfl #[.int .u8 (bt a0 a1)] rfl (by (try simp only [List.map_toArray, List.map_cons, List.map_nil]); first | done | rfl | (simp only [List.length_drop, List.length_take]; rfl)) ?_; (with_reducible refine (selfstabref04_Digit.calls (bt a0 a1) false _ A35.out).mono ?_); rintro e w89 ⟨rfl, hb⟩; refine ⟨_, rfl, ?_⟩; have n0_ := Aside0.mk (blk_below (g := gb142) (o := .cells #[.int .i64 0, .int .i64 0, .int .i64 0, .int .i64 0] 32 (0, 0)) (by (with_reducible repeat (first | refine blk_drewN ?_ _ | refine blk_drew ?_ | refine blk_alloc ?_ _)); exact BK142.out) hb); have n1_ := Aside0.mk (blk_below (g := gb143) (o := .cells #[.int .i64 0, .int .i64 a1, .int .i64 (wrap64 (a1 + 1)), .int .i64 0] 32 (0, 0)) (by (with_reducible repeat (first | refine blk_drewN ?_ _ | refine blk_drew ?_ | refine blk_alloc ?_ _)); exact BK143.out) hb); have n2_ := Aside0.mk (below_step (by repeat (first | (with_reducible first | exact HB.out | apply below_alloc | apply pw_below_drewN | apply below_drew1 | refine below_set ?_ GE142.out | refine below_set ?_ GE143.out) | exact HB.out)) hb); clear BK142; clear BK143; clear HB; have BK142 := n0_; have BK143 := n1_; have HB := n2_; clear n0_ n1_ n2_; (try clear hb); (try clear hb2); (try clear hk); (try clear hi)) | ((with_reducible refine gate_callee (f := 39) rfl ?_); refine goesL_ (some 81) rfl rfl Try.func39 (by kernel_rfl) rfl #[.string a0, .int .i64 a1] rfl (by (try simp only [List.map_toArray, List.map_cons, List.map_nil]); first | done | rfl | (simp only [List.length_drop, List.length_take]; rfl)) ?_; (with_reducible refine (selfstabref04_sign.calls k a0 a1 t150 _ A71.out).mono ?_); rintro e w90 ⟨rfl, hb⟩; refine ⟨_, rfl, ?_⟩; have n0_ := Aside0.mk (blk_below (g := gb142) (o := .cells #[.int .i64 0, .int .i64 0, .int .i64 0, .int .i64 0] 32 (0, 0)) (by (with_reducible repeat (first | refine blk_drewN ?_ _ | refine blk_drew ?_ | refine blk_alloc ?_ _)); exact BK142.out) hb); have n1_ := Aside0.mk (blk_below (g := gb143) (o := .cells #[.int .i64 0, .int .i64 a1, .int .i64 (wrap64 (a1 + 1)), .int .i64 0] 32 (0, 0)) (by (with_reducible repeat (first | refine blk_drewN ?_ _ | refine blk_drew ?_ | refine blk_alloc ?_ _)); exact BK143.out) hb); have n2_ := Aside0.mk (below_step (by repeat (first | (with_reducible first | exact HB.out | apply below_alloc | apply pw_below_drewN | apply below_drew1 | refine below_set ?_ GE142.out | refine below_set ?_ GE143.out) | exact HB.out)) hb); clear BK142; clear BK143; clear HB; have BK142 := n0_; have BK143 := n1_; have HB := n2_; clear n0_ n1_ n2_; (try clear hb); (try clear hb2); (try clear hk); (try clear hi); have hcz91_0 : w90.cell? ⟨gb142, 0, none⟩ = some (.int .i64 0) := (blk_cell BK142.out 0).trans rfl; have hcz91_1 : w90.cell? ⟨gb142, 1, none⟩ = some (.int .i64 0) := (blk_cell BK142.out 1).trans rfl; have hcz91_2 : w90.cell? ⟨gb142, 2, none⟩ = some (.int .i64 0) := (blk_cell BK142.out 2).trans rfl; have hcz91_3 : w90.cell? ⟨gb142, 3, none⟩ = some (.int .i64 0) := (blk_cell BK142.out 3).trans rfl; have hfz91_0 := blk_frozen BK142.out 0; have hfz91_1 := blk_frozen BK142.out 1; have hfz91_2 := blk_frozen BK142.out 2; have hfz91_3 := blk_frozen BK142.out 3))
            refine bodyPost_ret (results_ct rfl _ _ gb142 32 #[.int .i64 0, .int .i64 0, .int .i64 0, .int .i64 0] (0, 0) _ rfl (by (with_reducible repeat (first | refine blk_drewN ?_ _ | refine blk_drew ?_ | refine blk_alloc ?_ _)); refine blk_put (cs := #[.int .i64 0, .int .i64 0, .int .i64 0, .int .i64 0]) ?_ 3 _ rfl; (with_reducible repeat (first | refine blk_drewN ?_ _ | refine blk_drew ?_ | refine blk_alloc ?_ _)); refine blk_put (cs := #[.int .i64 0, .int .i64 0, .int .i64 0, .int .i64 0]) ?_ 2 _ rfl; (with_reducible repeat (first | refine blk_drewN ?_ _ | refine blk_drew ?_ | refine blk_alloc ?_ _)); refine blk_put (cs := #[.int .i64 0, .int .i64 0, .int .i64 0, .int .i64 0]) ?_ 1 _ rfl; (with_reducible repeat (first | refine blk_drewN ?_ _ | refine blk_drew ?_ | refine blk_alloc ?_ _)); refine blk_put (cs := #[.int .i64 0, .int .i64 0, .int .i64 0, .int .i64 0]) ?_ 0 _ rfl; (with_reducible repeat (first | refine blk_drewN ?_ _ | refine blk_drew ?_ | refine blk_alloc ?_ _)); exact BK142.out) Try.underlying32 rfl (by kernel_rfl)) rfl ?_
            exact ⟨by first | rfl | (simp [errW_none, errW_some] <;> rfl) | (simp [*, errW_none, errW_some] <;> rfl), by repeat (first | (with_reducible first | exact HB.out | apply below_alloc | apply pw_below_drewN | apply below_drew1 | refine below_set ?_ GE142.out | refine below_set ?_ GE143.out) | exact HB.out)⟩
    · rw [if_neg c4] at H
      exact absurd H (by simp)
  · rw [if_neg c3] at H
    exact absurd H (by simp)

end Go.Proofs.Ytanickojbgceaaa.P
