/- Part of the proof of the law GraphtextNamesTheLine: P11. -/
import Derived.Test.YtinfejpkjddbiaaDoorGraphtextNamesTheLineP0
import Derived.Test.YtinfejpkjddbiaaDoorGraphtextNamesTheLineP4
import Derived.Test.YtinfejpkjddbiaaDoorGraphtextNamesTheLineP5
import Derived.Test.YtinfejpkjddbiaaDoorGraphtextNamesTheLineP6
import Derived.Test.YtinfejpkjddbiaaDoorGraphtextNamesTheLineP7
import Derived.Test.YtinfejpkjddbiaaDoorGraphtextNamesTheLineP1
namespace Go.Proofs.YtinfejpkjddbiaaDoor.P
open Go.RowKit Go.Proofs.YtinfejpkjddbiaaDoorW.PrintWords Go.Proofs.YtinfejpkjddbiaaDoorW.PrintLast Go.Proofs.YtinfejpkjddbiaaDoorW.PrintMore
attribute [local go_sem] max2_int min2_int max_two min_two max_three min_three max_four min_four
set_option linter.unusedVariables false
set_option linter.unusedSimpArgs false
mutual
def selfstabmade_LightGraph.j0 : Nat → Bool → List Int → List (List (S41)) → Option (Bool)
 | 0, _, _, _ => none
 | k + 1, x13, x280000, x280001 => if x13 = true then (some false) else (selfstabmade_LightGraph.l0 k 0 x280000 x280001)
def selfstabmade_LightGraph.l0 : Nat → Int → List Int → List (List (S41)) → Option (Bool)
 | 0, _, _, _ => none
 | k + 1, x3, x280000, x280001 => if x3 < (x280001.length : Int) then (if 0 ≤ x3 then (if ((rd_L3 x280001 x3).length : Int) > 30 then (some false) else (selfstabmade_LightGraph.l0 k (wrap64 (x3 + 1)) x280000 x280001)) else (none)) else (some true)
end
def selfstabmade_LightGraph.f (k : Nat) (l0_0 : List Int) (l0_1 : List (List (S41))) : Option (Bool) := if (l0_0.length : Int) > 30 then (selfstabmade_LightGraph.j0 k true l0_0 l0_1) else (selfstabmade_LightGraph.j0 k (decide ((l0_1.length : Int) > 30)) l0_0 l0_1)
set_option maxHeartbeats 6000000 in
set_option maxRecDepth 100000 in
theorem selfstabmade_LightGraph.calls (k : Nat) (A0_0 : Option Addr) (c0_0 : Nat) (l0_0 : List Int) (A0_1 : Option Addr) (c0_1 : Nat) (l0_1 : List (List (S41))) (r : Bool) (w : World) (hr0_0 : Kd.C (Kd.int .i64) w A0_0 l0_0.length l0_0) (hc0_0 : l0_0.length ≤ c0_0) (hr0_1 : Kd.C (Kd.slice 41 k41) w A0_1 l0_1.length l0_1) (hc0_1 : l0_1.length ≤ c0_1) (h : selfstabmade_LightGraph.f k l0_0 l0_1 = some r) :
  Calls Tryd.prog 13 #[.agg #[.slice A0_0 l0_0.length c0_0, .slice A0_1 l0_1.length c0_1]] w fun e w' => e = .returned (.bool r) ∧ Below w.heap.size w w' := by
 have hu26 := Tryd.underlying26
 have HR0_0 := Aside0.mk hr0_0
 have HC0_0 := Aside0.mk hc0_0
 clear hr0_0 hc0_0;have HR0_1 := Aside0.mk hr0_1
 have HC0_1 := Aside0.mk hc0_1
 clear hr0_1 hc0_1;have HB := Aside0.mk (Below.refl w.heap.size w)
 have H : (if (l0_0.length : Int) > 30 then (selfstabmade_LightGraph.j0 k true l0_0 l0_1) else (selfstabmade_LightGraph.j0 k (decide ((l0_1.length : Int) > 30)) l0_0 l0_1)) = some r := h
 clear h;have HC2 := Aside0.mk H
 clear H;go_enter Tryd.func13, Tryd.ntmps13
 go_upto_region 1 with (first | ((with_reducible refine gate_dst (N := 1) rfl ?_); (try (refine gate_guard (by rfl) ?_; dsimp only)); refine box_event ?hg (N := 1) ?hd (cs := #[.slice A0_0 l0_0.length c0_0, .slice A0_1 l0_1.length c0_1]) (t := 26) ?hr ?_; (case hd => rfl); (case hg => rfl); (case hr => first | (go_simp; done) | (go_simp; rfl)); intro gb279 hg w3 hbox hb; have n0_ := Aside0.mk (below_step (by repeat (first | (with_reducible first | exact HB.out | apply below_alloc | apply pw_below_drewN | apply below_drew1) | exact HB.out)) hb); have n1_ := Aside0.mk (hbox); have n2_ := Aside0.mk ((by rw [hg]; exact (below_size (by repeat (first | (with_reducible first | exact HB.out | apply below_alloc | apply pw_below_drewN | apply below_drew1) | exact HB.out))) : w.heap.size ≤ gb279)); have n3_ := Aside0.mk ((by rw [hg]; exact (below_size (by repeat (first | (with_reducible first | exact HB.out | apply below_alloc | apply pw_below_drewN | apply below_drew1) | exact HB.out))) : w.heap.size ≤ gb279)); clear HB; have HB := n0_; have BK279 := n1_; have GW279 := n2_; have GE279 := n3_; clear n0_ n1_ n2_ n3_; clear hb hbox hg))
 (try simp only [Act.put, List.setIfInBounds_toArray, List.set_cons_zero, List.set_cons_succ])
 go_cut [13] (fun v13 wc => ∃ (kq : Nat) (x13_1 : Bool), v13 = .bool x13_1 ∧ Aside0 (selfstabmade_LightGraph.j0 kq x13_1 l0_0 l0_1 = some r) ∧ Aside0 (kq ≤ k) ∧ Aside0 (wc.heap[gb279]? = some (.cells #[(.slice A0_0 l0_0.length c0_0), (.slice A0_1 l0_1.length c0_1)] 26 (0, 0))) ∧ Aside0 (Below w.heap.size w wc))
 case first =>
  have H := HC2.out
  clear HC2;by_cases c4 : (l0_0.length : Int) > 30
  ·rw [if_pos c4] at H
   have c4b0 : decide (30 < (l0_0.length : Int)) = true := decide_eq_true c4
   have c4b1 : decide (30 < l0_0.length) = true := decide_eq_true (by omega)
   clear c4;(first | rw [c4b0] | (simp only [i64_w, i32_w]; rw [c4b0]) | skip)
   have H' := Aside0.mk H
   clear H;have hcz5_0 : w3.cell? ⟨gb279, 0, none⟩ = some (.slice A0_0 l0_0.length c0_0) := (blk_cell BK279.out 0).trans rfl
   have hcz5_1 : w3.cell? ⟨gb279, 1, none⟩ = some (.slice A0_1 l0_1.length c0_1) := (blk_cell BK279.out 1).trans rfl
   have hfz5_0 := blk_frozen BK279.out 0
   have hfz5_1 := blk_frozen BK279.out 1
   go_wp2
   go_meet
   case rel => exact ⟨_, (true), (by first | rfl | (simp; done) | (simp [*]; done)), H', ⟨by first | omega | exact Nat.le_refl _⟩, ⟨by (with_reducible repeat (first | refine blk_drewN ?_ _ | refine blk_drew ?_ | refine blk_alloc ?_ _)); exact BK279.out⟩, ⟨by repeat (first | (with_reducible first | exact HB.out | apply below_alloc | apply pw_below_drewN | apply below_drew1 | refine below_set ?_ GE279.out) | exact HB.out)⟩⟩
  ·rw [if_neg c4] at H
   have c4b0 : decide (30 < (l0_0.length : Int)) = false := decide_eq_false c4
   have c4b1 : decide (30 < l0_0.length) = false := decide_eq_false (by omega)
   clear c4;(first | rw [c4b0] | (simp only [i64_w, i32_w]; rw [c4b0]) | skip)
   have H' := Aside0.mk H
   clear H;have hcz6_0 : w3.cell? ⟨gb279, 0, none⟩ = some (.slice A0_0 l0_0.length c0_0) := (blk_cell BK279.out 0).trans rfl
   have hcz6_1 : w3.cell? ⟨gb279, 1, none⟩ = some (.slice A0_1 l0_1.length c0_1) := (blk_cell BK279.out 1).trans rfl
   have hfz6_0 := blk_frozen BK279.out 0
   have hfz6_1 := blk_frozen BK279.out 1
   go_wp2
   go_meet
   case rel => exact ⟨_, (decide ((l0_1.length : Int) > 30)), (by first | rfl | (simp; done) | (simp [*]; done)), H', ⟨by first | omega | exact Nat.le_refl _⟩, ⟨by (with_reducible repeat (first | refine blk_drewN ?_ _ | refine blk_drew ?_ | refine blk_alloc ?_ _)); exact BK279.out⟩, ⟨by repeat (first | (with_reducible first | exact HB.out | apply below_alloc | apply pw_below_drewN | apply below_drew1 | refine below_set ?_ GE279.out) | exact HB.out)⟩⟩
 case rest =>
  clear HC2;obtain ⟨kq, x13_1, rfl, HA, HJ1, BK279, HB⟩ := hcut
  cases kq with
  | zero => exact absurd HA.out (by simp [selfstabmade_LightGraph.j0])
  | succ kj1 =>
   have H := HA.out
   clear HA;simp only [selfstabmade_LightGraph.j0] at H
   by_cases c7 : x13_1 = true
   ·subst c7;have H1 : (some false) = some r := by rw [if_pos rfl] at H; exact H
    clear H;have H := H1
    clear H1;obtain rfl := Option.some.inj H
    go_wp2
    go_ret
    exact ⟨by first | rfl | (simp [errW_none, errW_some] <;> rfl) | (simp [*, errW_none, errW_some] <;> rfl), by repeat (first | (with_reducible first | exact HB.out | apply below_alloc | apply pw_below_drewN | apply below_drew1 | refine below_set ?_ GE279.out) | exact HB.out)⟩
   ·replace c7 := Bool.eq_false_iff.mpr c7
    subst c7;have H1 : (selfstabmade_LightGraph.l0 kj1 0 l0_0 l0_1) = some r := by rw [if_neg (show ¬ (false = true) by decide)] at H; exact H
    clear H;have H := H1
    clear H1;have H' := Aside0.mk H
    clear H;go_wp2
    go_loopg [3] kj1 (fun kq v3 w' => ∃ (x3_2 : Int), v3 = .int .i64 x3_2 ∧ Aside0 (selfstabmade_LightGraph.l0 kq x3_2 l0_0 l0_1 = some r) ∧ Aside0 (kq ≤ kj1) ∧ Aside0 (w'.heap[gb279]? = some (.cells #[(.slice A0_0 l0_0.length c0_0), (.slice A0_1 l0_1.length c0_1)] 26 (0, 0))) ∧ Aside0 (Below w.heap.size w w'))
    case atStart => exact ⟨(0), (by first | rfl | (simp; done) | (simp [*]; done)), H', ⟨Nat.le_refl _⟩, ⟨by (with_reducible repeat (first | refine blk_drewN ?_ _ | refine blk_drew ?_ | refine blk_alloc ?_ _)); exact BK279.out⟩, ⟨by repeat (first | (with_reducible first | exact HB.out | apply below_alloc | apply pw_below_drewN | apply below_drew1 | refine below_set ?_ GE279.out) | exact HB.out)⟩⟩
    case round =>
     clear H';try clear c7
     obtain ⟨x3_2, rfl, HA, HK2, BK279, HB⟩ := hrel
     cases gk with
     | zero => exact absurd HA.out (by simp [selfstabmade_LightGraph.l0])
     | succ k2 =>
      have H := HA.out
      clear HA;simp only [selfstabmade_LightGraph.l0] at H
      by_cases c8 : x3_2 < (l0_1.length : Int)
      ·rw [if_pos c8] at H
       have c8b0 : decide (x3_2 < (l0_1.length : Int)) = true := decide_eq_true c8
       clear c8;by_cases c9 : 0 ≤ x3_2
       ·rw [if_pos c9] at H
        have c9b0 : decide (0 ≤ x3_2) = true := decide_eq_true c9
        clear c9;by_cases c10 : ((rd_L3 l0_1 x3_2).length : Int) > 30
        ·rw [if_pos c10] at H
         have c10b0 : decide (30 < ((rd_L3 l0_1 x3_2).length : Int)) = true := decide_eq_true c10
         have c10b1 : decide (30 < (rd_L3 l0_1 x3_2).length) = true := decide_eq_true (by omega)
         clear c10;obtain rfl := Option.some.inj H
         have hcz11_0 : wr.cell? ⟨gb279, 0, none⟩ = some (.slice A0_0 l0_0.length c0_0) := (blk_cell BK279.out 0).trans rfl
         have hcz11_1 : wr.cell? ⟨gb279, 1, none⟩ = some (.slice A0_1 l0_1.length c0_1) := (blk_cell BK279.out 1).trans rfl
         have hfz11_0 := blk_frozen BK279.out 0
         have hfz11_1 := blk_frozen BK279.out 1
         have p280 : 0 ≤ (x3_2 : Int) := of_decide_eq_true (by first | (with_reducible assumption) | assumption)
         have q280 : x3_2 < (l0_1.length : Int) := of_decide_eq_true (by first | (with_reducible assumption) | assumption)
         obtain ⟨ad280, A280_0, c280_0, e280, hx280_0, hl280_0, hi280_0⟩ := at_L3 HR0_1.out x3_2 p280 q280
         cases e280;replace hx280_0 := (HB.out.cell (World.block_lt_of_cell? w _ hx280_0)).trans hx280_0
         have HR280_0 := Aside0.mk hi280_0
         have HC280_0 := Aside0.mk hl280_0
         clear hi280_0 hl280_0;replace p280 := eq_true p280;replace q280 := eq_true q280;go_wp2
         go_ret
         exact ⟨by first | rfl | (simp [errW_none, errW_some] <;> rfl) | (simp [*, errW_none, errW_some] <;> rfl), by repeat (first | (with_reducible first | exact HB.out | apply below_alloc | apply pw_below_drewN | apply below_drew1 | refine below_set ?_ GE279.out) | exact HB.out)⟩
        ·rw [if_neg c10] at H
         have c10b0 : decide (30 < ((rd_L3 l0_1 x3_2).length : Int)) = false := decide_eq_false c10
         have c10b1 : decide (30 < (rd_L3 l0_1 x3_2).length) = false := decide_eq_false (by omega)
         clear c10;have H' := Aside0.mk H
         clear H;have hcz12_0 : wr.cell? ⟨gb279, 0, none⟩ = some (.slice A0_0 l0_0.length c0_0) := (blk_cell BK279.out 0).trans rfl
         have hcz12_1 : wr.cell? ⟨gb279, 1, none⟩ = some (.slice A0_1 l0_1.length c0_1) := (blk_cell BK279.out 1).trans rfl
         have hfz12_0 := blk_frozen BK279.out 0
         have hfz12_1 := blk_frozen BK279.out 1
         have p280 : 0 ≤ (x3_2 : Int) := of_decide_eq_true (by first | (with_reducible assumption) | assumption)
         have q280 : x3_2 < (l0_1.length : Int) := of_decide_eq_true (by first | (with_reducible assumption) | assumption)
         obtain ⟨ad280, A280_0, c280_0, e280, hx280_0, hl280_0, hi280_0⟩ := at_L3 HR0_1.out x3_2 p280 q280
         cases e280;replace hx280_0 := (HB.out.cell (World.block_lt_of_cell? w _ hx280_0)).trans hx280_0
         have HR280_0 := Aside0.mk hi280_0
         have HC280_0 := Aside0.mk hl280_0
         clear hi280_0 hl280_0;replace p280 := eq_true p280;replace q280 := eq_true q280;go_wp2
         go_roundg k2
         case measure => have := HJ1.out; have := HK2.out; omega
         case rel => exact ⟨(wrap64 (x3_2 + 1)), (by first | rfl | (simp; done) | (simp [*]; done)), H', ⟨by have := HJ1.out; have := HK2.out; omega⟩, ⟨by (with_reducible repeat (first | refine blk_drewN ?_ _ | refine blk_drew ?_ | refine blk_alloc ?_ _)); exact BK279.out⟩, ⟨by repeat (first | (with_reducible first | exact HB.out | apply below_alloc | apply pw_below_drewN | apply below_drew1 | refine below_set ?_ GE279.out) | exact HB.out)⟩⟩
       ·rw [if_neg c9] at H
        exact absurd H (by simp)
      ·rw [if_neg c8] at H
       have c8b0 : decide (x3_2 < (l0_1.length : Int)) = false := decide_eq_false c8
       clear c8;obtain rfl := Option.some.inj H
       have hcz13_0 : wr.cell? ⟨gb279, 0, none⟩ = some (.slice A0_0 l0_0.length c0_0) := (blk_cell BK279.out 0).trans rfl
       have hcz13_1 : wr.cell? ⟨gb279, 1, none⟩ = some (.slice A0_1 l0_1.length c0_1) := (blk_cell BK279.out 1).trans rfl
       have hfz13_0 := blk_frozen BK279.out 0
       have hfz13_1 := blk_frozen BK279.out 1
       go_wp2
       go_ret
       exact ⟨by first | rfl | (simp [errW_none, errW_some] <;> rfl) | (simp [*, errW_none, errW_some] <;> rfl), by repeat (first | (with_reducible first | exact HB.out | apply below_alloc | apply pw_below_drewN | apply below_drew1 | refine below_set ?_ GE279.out) | exact HB.out)⟩
def selfstabref02_Decimal.l0 : Nat → Int → ByteArray → Option (ByteArray)
 | 0, _, _ => none
 | k + 1, x0, x3 => if x0 ≥ 10 then ((some (([(wrap64 (48 + (Int.tmod (wrap64 (Int.tdiv x0 10)) 10))) % 256] : List Int) : List Int)).bind fun y284 => (if (strOfNums y284).size + x3.size ≤ 9223372036854775807 then (selfstabref02_Decimal.l0 k (wrap64 (Int.tdiv x0 10)) ((strOfNums y284) ++ x3)) else (none))) else (some x3)
def selfstabref02_Decimal.f (k : Nat) (a0 : Int) : Option (ByteArray) := selfstabref02_Decimal.l0 k (mx a0 0) (strOfNums (([48 + ((mx a0 0) % 10)] : List Int)))
theorem selfstabref02_Decimal.mono_l : ∀ k, (∀ y0 y1, LeO (selfstabref02_Decimal.l0 k y0 y1) (selfstabref02_Decimal.l0 (k + 1) y0 y1))
 | 0 => fun _ _ r h => by simp [selfstabref02_Decimal.l0] at h
 | k + 1 => by
  have ih0 := selfstabref02_Decimal.mono_l k
  ·intro y0 y1;unfold selfstabref02_Decimal.l0
   repeat' first
   | (with_reducible exact ih0 _ _)
   | (with_reducible exact LeO.refl _)
   | (with_reducible exact LeO.none _)
   | (with_reducible refine LeO.ite ?_ ?_)
   | (with_reducible refine LeO.bind ?_ (fun _ => ?_))
   | exact ih0 _ _
   | exact LeO.none _
   | refine LeO.ite ?_ ?_
   | refine LeO.bind ?_ (fun _ => ?_)
theorem selfstabref02_Decimal.mono : ∀ a0 k, LeO (selfstabref02_Decimal.f k a0) (selfstabref02_Decimal.f (k + 1) a0) := by
 intro a0 k;have ih0 := selfstabref02_Decimal.mono_l k
 unfold selfstabref02_Decimal.f
 repeat' first
   | (with_reducible exact ih0 _ _)
   | (with_reducible exact LeO.refl _)
   | (with_reducible exact LeO.none _)
   | (with_reducible refine LeO.ite ?_ ?_)
   | (with_reducible refine LeO.bind ?_ (fun _ => ?_))
   | exact ih0 _ _
   | exact LeO.none _
   | refine LeO.ite ?_ ?_
   | refine LeO.bind ?_ (fun _ => ?_)
set_option maxHeartbeats 6000000 in
set_option maxRecDepth 100000 in
theorem selfstabref02_Decimal.calls (k : Nat) (a0 : Int) (r : ByteArray) (w : World) (h : selfstabref02_Decimal.f k a0 = some r) :
  Calls Tryd.prog 27 #[.int .i64 a0] w fun e w' => e = .returned (.string r) ∧ Below w.heap.size w w' := by
 have HB := Aside0.mk (Below.refl w.heap.size w)
 have H : (selfstabref02_Decimal.l0 k (mx a0 0) (strOfNums (([48 + ((mx a0 0) % 10)] : List Int)))) = some r := h
 clear h;obtain ⟨ji2, hji2⟩ : ∃ j_ : Int, (mx a0 0) = j_ := ⟨_, rfl⟩
 replace H : (selfstabref02_Decimal.l0 k ji2 (strOfNums (([48 + ((ji2) % 10)] : List Int)))) = some r := by first | (rw [hji2] at H; exact H) | (simp only [hji2] at H ⊢; exact H)
 (try (have hji2l : 0 ≤ ji2 := by (rw [← hji2]; unfold mx; (repeat' split) <;> omega)))
 (try (have hji2m : 0 ≤ ji2 := by omega))
 have hji2_ : (if a0 < 0 then 0 else a0) = ji2 := hji2
 obtain ⟨y281, hy281⟩ : ∃ y_ : List Int, y_ = (([48 + ((ji2) % 10)] : List Int)) := ⟨_, rfl⟩
 replace H : (selfstabref02_Decimal.l0 k ji2 (strOfNums y281)) = some r := by first | (rw [hy281]; with_reducible exact H) | (have H2_ := (Option.bind_some _ _).symm.trans H; rw [hy281]; with_reducible exact H2_) | (have H2_ := (Option.bind_some _ _).symm.trans H; with_reducible exact H2_) | with_reducible exact H | (rw [hy281]; exact H) | exact H
 have Ny281 := Aside0.mk hy281
 clear hy281;have H' := Aside0.mk H
 clear H;go_enter Tryd.func27, Tryd.ntmps27
 go_wp2_with (first | ((with_reducible refine gate_dst (N := 10) rfl ?_); refine Kd.R_lit (Kd.int .u8) _ 5 ?hg (N := 10) ?hd (xs := ([48 + ((ji2) % 10)] : List Int)) (inner := [.int .u8 (48 + ((ji2) % 10))]) (ok := fun _ => True) (okp := fun _ => True) ?hr ?hp (fun _ hk => hk) trivial (Below.refl _ _) (Nat.le_refl _) (by simp) ?_; (case hd => rfl); (case hg => rfl); (case hr => first | (go_simp; done) | (go_simp; rfl)); (case hp => exact (Reps.one (show Kd.M (Kd.int .u8) _ _ _ (48 + ((ji2) % 10)) [.int .u8 (48 + ((ji2) % 10))] from rfl) (Reps.none _ _))); intro v282 w3 ho4 hb hg_ hnew_; clear hg_ hnew_; (first | rw [← Ny281.out] at ho4 | (simp only [Int.reduceToNat] at ho4; rw [← Ny281.out] at ho4)); have n0_ := Aside0.mk (Kd.R_lower ho4 (below_size (by repeat (first | (with_reducible first | exact HB.out | apply below_alloc | apply pw_below_drewN | apply below_drew1) | exact HB.out)))); have n1_ := Aside0.mk (below_step (by repeat (first | (with_reducible first | exact HB.out | apply below_alloc | apply pw_below_drewN | apply below_drew1) | exact HB.out)) hb); clear HB; have HO283 := n0_; have HB := n1_; clear n0_ n1_; clear hb ho4; have hcv5 := own_string (P := Tryd.prog) Tryd.underlying52 Tryd.underlying5 Tryd.underlying9 (Kd.own_of_R HO283.out)))
 go_loopg [0, 3] k (fun kq v0 v3 w' => ∃ (x0_1 : Int) (x3_1 : ByteArray), v0 = .int .i64 x0_1 ∧ v3 = .string x3_1 ∧ Aside0 (selfstabref02_Decimal.l0 kq x0_1 x3_1 = some r) ∧ Aside0 (kq ≤ k) ∧ Aside0 (Below w.heap.size w w'))
 case atStart => exact ⟨(ji2), (strOfNums y281), (by first | rfl | (simp; done) | (simp only [← hji2] <;> (first | rfl | simp)) | (simp [*]; done)), (by first | rfl | (simp; done) | (simp [*]; done)), H', ⟨Nat.le_refl _⟩, ⟨by repeat (first | (with_reducible first | exact HB.out | apply below_alloc | apply pw_below_drewN | apply below_drew1) | exact HB.out)⟩⟩
 case round =>
  clear H';try clear hcv5
  obtain ⟨x0_1, x3_1, rfl, rfl, HA, HK1, HB⟩ := hrel
  cases gk with
  | zero => exact absurd HA.out (by simp [selfstabref02_Decimal.l0])
  | succ k1 =>
   have H := HA.out
   clear HA;simp only [selfstabref02_Decimal.l0] at H
   by_cases c6 : x0_1 ≥ 10
   ·rw [if_pos c6] at H
    have c6b0 : decide (10 ≤ x0_1) = true := decide_eq_true c6
    clear c6;obtain ⟨y284, hy284⟩ : ∃ y_ : List Int, y_ = (([(wrap64 (48 + (Int.tmod (wrap64 (Int.tdiv x0_1 10)) 10))) % 256] : List Int)) := ⟨_, rfl⟩
    replace H : (if (strOfNums y284).size + x3_1.size ≤ 9223372036854775807 then (selfstabref02_Decimal.l0 k1 (wrap64 (Int.tdiv x0_1 10)) ((strOfNums y284) ++ x3_1)) else (none)) = some r := by first | (rw [hy284]; with_reducible exact H) | (have H2_ := (Option.bind_some _ _).symm.trans H; rw [hy284]; with_reducible exact H2_) | (have H2_ := (Option.bind_some _ _).symm.trans H; with_reducible exact H2_) | with_reducible exact H | (rw [hy284]; exact H) | exact H
    have Ny284 := Aside0.mk hy284
    clear hy284;by_cases c7 : (strOfNums y284).size + x3_1.size ≤ 9223372036854775807
    ·rw [if_pos c7] at H
     have c7b0 := eq_true c7
     have c7b1 : decide ((strOfNums y284).size + x3_1.size ≤ 9223372036854775807) = true := decide_eq_true c7
     try have c7b2 : (9223372036854775807 < (strOfNums y284).size + x3_1.size) = False := eq_false (Nat.not_lt.2 c7)
     have H' := Aside0.mk H
     clear H
     go_wp2_with (first | ((with_reducible refine gate_dst (N := 20) rfl ?_); refine Kd.R_lit (Kd.int .u8) _ 5 ?hg (N := 20) ?hd (xs := ([(wrap64 (48 + (Int.tmod (wrap64 (Int.tdiv x0_1 10)) 10))) % 256] : List Int)) (inner := [.int .u8 ((wrap64 (48 + (Int.tmod (wrap64 (Int.tdiv x0_1 10)) 10))) % 256)]) (ok := fun _ => True) (okp := fun _ => True) ?hr ?hp (fun _ hk => hk) trivial (Below.refl _ _) (Nat.le_refl _) (by simp) ?_; (case hd => rfl); (case hg => rfl); (case hr => first | (go_simp; done) | (go_simp; rfl)); (case hp => exact (Reps.one (show Kd.M (Kd.int .u8) _ _ _ ((wrap64 (48 + (Int.tmod (wrap64 (Int.tdiv x0_1 10)) 10))) % 256) [.int .u8 ((wrap64 (48 + (Int.tmod (wrap64 (Int.tdiv x0_1 10)) 10))) % 256)] from rfl) (Reps.none _ _))); intro v285 w8 ho9 hb hg_ hnew_; clear hg_ hnew_; (first | rw [← Ny284.out] at ho9 | (simp only [Int.reduceToNat] at ho9; rw [← Ny284.out] at ho9)); have n0_ := Aside0.mk (Kd.R_lower ho9 (below_size (by repeat (first | (with_reducible first | exact HB.out | apply below_alloc | apply pw_below_drewN | apply below_drew1) | exact HB.out)))); have n1_ := Aside0.mk (below_step (by repeat (first | (with_reducible first | exact HB.out | apply below_alloc | apply pw_below_drewN | apply below_drew1) | exact HB.out)) hb); clear HB; have HO286 := n0_; have HB := n1_; clear n0_ n1_; clear hb ho9; have hcv10 := own_string (P := Tryd.prog) Tryd.underlying52 Tryd.underlying5 Tryd.underlying9 (Kd.own_of_R HO286.out)))
     go_roundg k1
     case measure => have := HK1.out; omega
     case rel => exact ⟨(wrap64 (Int.tdiv x0_1 10)), ((strOfNums y284) ++ x3_1), (by first | rfl | (simp; done) | (simp [*]; done)), (by first | rfl | (simp; done) | (simp [*]; done)), H', ⟨by have := HK1.out; omega⟩, ⟨by repeat (first | (with_reducible first | exact HB.out | apply below_alloc | apply pw_below_drewN | apply below_drew1) | exact HB.out)⟩⟩
    ·rw [if_neg c7] at H
     exact absurd H (by simp)
   ·rw [if_neg c6] at H
    have c6b0 : decide (10 ≤ x0_1) = false := decide_eq_false c6
    clear c6;obtain rfl := Option.some.inj H
    go_wp2
    go_ret
    exact ⟨by first | rfl | (simp [errW_none, errW_some] <;> rfl) | (simp only [← hji2]; first | rfl | (simp [errW_none, errW_some] <;> rfl)) | (simp [*, errW_none, errW_some] <;> rfl), by repeat (first | (with_reducible first | exact HB.out | apply below_alloc | apply pw_below_drewN | apply below_drew1) | exact HB.out)⟩
end Go.Proofs.YtinfejpkjddbiaaDoor.P
