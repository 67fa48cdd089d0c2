/- Part of the proof of the law GraphtextWritesBack: P6. -/
import Derived.Test.YtinfejpkjddbiaaDoorGraphtextWritesBackP0
namespace Go.Proofs.YtinfejpkjddbiaaDoor.P
open Go.RowKit Go.Proofs.YtinfejpkjddbiaaDoorW.PrintWords Go.Proofs.YtinfejpkjddbiaaDoorW.PrintLast Go.Proofs.YtinfejpkjddbiaaDoorW.PrintMore
attribute [local go_sem] max2_int min2_int max_two min_two max_three min_three max_four min_four
set_option linter.unusedVariables false
set_option linter.unusedSimpArgs false
def selfstabref01_Port.l0 : Nat → Int → Int → Int → List Int → List (List (S41)) → Option (Int)
 | 0, _, _, _, _, _ => none
 | k + 1, x1, x2, x7, x173000, x173001 => if 0 ≤ x1 then (if x1 < (x173001.length : Int) then (if x7 < ((rd_L3 x173001 x1).length : Int) then (if 0 ≤ x7 then (if ((rd_T41 (rd_L3 x173001 x1) x7).f0) = x2 then (some x7) else (selfstabref01_Port.l0 k x1 x2 (wrap64 (x7 + 1)) x173000 x173001)) else (none)) else (some (-1))) else (none)) else (none)
def selfstabref01_Port.f (k : Nat) (l0_0 : List Int) (l0_1 : List (List (S41))) (a1 : Int) (a2 : Int) : Option (Int) := selfstabref01_Port.l0 k a1 a2 0 l0_0 l0_1
set_option maxHeartbeats 6000000 in
set_option maxRecDepth 100000 in
theorem selfstabref01_Port.calls (k : Nat) (A0_0 : Option Addr) (c0_0 : Nat) (l0_0 : List Int) (A0_1 : Option Addr) (c0_1 : Nat) (l0_1 : List (List (S41))) (a1 : Int) (a2 : Int) (r : Int) (w : World) (hr0_0 : Kd.C (Kd.int .i64) w A0_0 l0_0.length l0_0) (hc0_0 : l0_0.length ≤ c0_0) (hr0_1 : Kd.C (Kd.slice 41 k41) w A0_1 l0_1.length l0_1) (hc0_1 : l0_1.length ≤ c0_1) (h : selfstabref01_Port.f k l0_0 l0_1 a1 a2 = some r) :
  Calls Tryd.prog 26 #[.agg #[.slice A0_0 l0_0.length c0_0, .slice A0_1 l0_1.length c0_1], .int .i64 a1, .int .i64 a2] w fun e w' => e = .returned (.int .i64 r) ∧ Below w.heap.size w w' := by
 have hu26 := Tryd.underlying26
 have HR0_0 := Aside0.mk hr0_0
 have HC0_0 := Aside0.mk hc0_0
 clear hr0_0 hc0_0;have HR0_1 := Aside0.mk hr0_1
 have HC0_1 := Aside0.mk hc0_1
 clear hr0_1 hc0_1;have HB := Aside0.mk (Below.refl w.heap.size w)
 have H : (selfstabref01_Port.l0 k a1 a2 0 l0_0 l0_1) = some r := h
 clear h;have H' := Aside0.mk H
 clear H;go_enter Tryd.func26, Tryd.ntmps26
 go_wp2_with (first | ((with_reducible refine gate_dst (N := 3) rfl ?_); refine box_event ?hg (N := 3) ?hd (cs := #[.slice A0_0 l0_0.length c0_0, .slice A0_1 l0_1.length c0_1]) (t := 26) ?hr ?_; (case hd => rfl); (case hg => rfl); (case hr => first | (go_simp; done) | (go_simp; rfl)); intro gb172 hg w4 hbox hb; have n0_ := Aside0.mk (below_step (by repeat (first | (with_reducible first | exact HB.out | apply below_alloc | apply pw_below_drewN | apply below_drew1) | exact HB.out)) hb); have n1_ := Aside0.mk (hbox); have n2_ := Aside0.mk ((by rw [hg]; exact (below_size (by repeat (first | (with_reducible first | exact HB.out | apply below_alloc | apply pw_below_drewN | apply below_drew1) | exact HB.out))) : w.heap.size ≤ gb172)); have n3_ := Aside0.mk ((by rw [hg]; exact (below_size (by repeat (first | (with_reducible first | exact HB.out | apply below_alloc | apply pw_below_drewN | apply below_drew1) | exact HB.out))) : w.heap.size ≤ gb172)); clear HB; have HB := n0_; have BK172 := n1_; have GW172 := n2_; have GE172 := n3_; clear n0_ n1_ n2_ n3_; clear hb hbox hg))
 go_loopg [7] k (fun kq v7 w' => ∃ (x7_1 : Int), v7 = .int .i64 x7_1 ∧ Aside0 (selfstabref01_Port.l0 kq a1 a2 x7_1 l0_0 l0_1 = some r) ∧ Aside0 (kq ≤ k) ∧ Aside0 (w'.heap[gb172]? = some (.cells #[(.slice A0_0 l0_0.length c0_0), (.slice A0_1 l0_1.length c0_1)] 26 (0, 0))) ∧ Aside0 (Below w.heap.size w w'))
 case atStart => exact ⟨(0), (by first | rfl | (simp; done) | (simp [*]; done)), H', ⟨Nat.le_refl _⟩, ⟨by (with_reducible repeat (first | refine blk_drewN ?_ _ | refine blk_drew ?_ | refine blk_alloc ?_ _)); exact BK172.out⟩, ⟨by repeat (first | (with_reducible first | exact HB.out | apply below_alloc | apply pw_below_drewN | apply below_drew1 | refine below_set ?_ GE172.out) | exact HB.out)⟩⟩
 case round =>
  clear H';obtain ⟨x7_1, rfl, HA, HK1, BK172, HB⟩ := hrel
  cases gk with
  | zero => exact absurd HA.out (by simp [selfstabref01_Port.l0])
  | succ k1 =>
   have H := HA.out
   clear HA;simp only [selfstabref01_Port.l0] at H
   by_cases c5 : 0 ≤ a1
   ·rw [if_pos c5] at H
    have c5b0 : decide (0 ≤ a1) = true := decide_eq_true c5
    clear c5;by_cases c6 : a1 < (l0_1.length : Int)
    ·rw [if_pos c6] at H
     have c6b0 : decide (a1 < (l0_1.length : Int)) = true := decide_eq_true c6
     clear c6;by_cases c7 : x7_1 < ((rd_L3 l0_1 a1).length : Int)
     ·rw [if_pos c7] at H
      have c7b0 : decide (x7_1 < ((rd_L3 l0_1 a1).length : Int)) = true := decide_eq_true c7
      clear c7;by_cases c8 : 0 ≤ x7_1
      ·rw [if_pos c8] at H
       have c8b0 : decide (0 ≤ x7_1) = true := decide_eq_true c8
       clear c8;by_cases c9 : ((rd_T41 (rd_L3 l0_1 a1) x7_1).f0) = a2
       ·rw [if_pos c9] at H
        have c9b0 : (((rd_T41 (rd_L3 l0_1 a1) x7_1).f0) == a2) = true := beq_iff_eq.mpr c9
        have c9b1 : (((rd_T41 (rd_L3 l0_1 a1) x7_1).f0) != a2) = false := bne_eq_false_iff_eq.mpr c9
        clear c9;obtain rfl := Option.some.inj H
        have hcz10_0 : wr.cell? ⟨gb172, 0, none⟩ = some (.slice A0_0 l0_0.length c0_0) := (blk_cell BK172.out 0).trans rfl
        have hcz10_1 : wr.cell? ⟨gb172, 1, none⟩ = some (.slice A0_1 l0_1.length c0_1) := (blk_cell BK172.out 1).trans rfl
        have hfz10_0 := blk_frozen BK172.out 0
        have hfz10_1 := blk_frozen BK172.out 1
        have p173 : 0 ≤ (a1 : Int) := of_decide_eq_true (by first | (with_reducible assumption) | assumption)
        have q173 : a1 < (l0_1.length : Int) := of_decide_eq_true (by first | (with_reducible assumption) | assumption)
        obtain ⟨ad173, A173_0, c173_0, e173, hx173_0, hl173_0, hi173_0⟩ := at_L3 HR0_1.out a1 p173 q173
        cases e173;replace hx173_0 := (HB.out.cell (World.block_lt_of_cell? w _ hx173_0)).trans hx173_0
        have HR173_0 := Aside0.mk hi173_0
        have HC173_0 := Aside0.mk hl173_0
        clear hi173_0 hl173_0;replace p173 := eq_true p173;replace q173 := eq_true q173;have p174 : 0 ≤ (a1 : Int) := of_decide_eq_true (by first | (with_reducible assumption) | assumption)
        have q174 : a1 < (l0_1.length : Int) := of_decide_eq_true (by first | (with_reducible assumption) | assumption)
        obtain ⟨ad174, A174_0, c174_0, e174, hx174_0, hl174_0, hi174_0⟩ := at_L3 HR0_1.out a1 p174 q174
        obtain rfl : ad173 = ad174 := (by injection e174)
        replace hx174_0 := (HB.out.cell (World.block_lt_of_cell? w _ hx174_0)).trans hx174_0
        have HR174_0 := Aside0.mk hi174_0
        have HC174_0 := Aside0.mk hl174_0
        clear hi174_0 hl174_0;replace p174 := eq_true p174;replace q174 := eq_true q174;have ea_ := Option.some.inj (hx173_0.symm.trans hx174_0)
        injection ea_ with ea_ en_ ec_
        subst ea_;subst ec_;clear en_;have p175 : 0 ≤ (x7_1 : Int) := of_decide_eq_true (by first | (with_reducible assumption) | assumption)
        have q175 : x7_1 < ((rd_L3 l0_1 a1).length : Int) := of_decide_eq_true (by first | (with_reducible assumption) | assumption)
        obtain ⟨ad175, e175, hx175_0, hx175_1⟩ := at_T41 HR174_0.out x7_1 p175 q175
        cases e175;replace hx175_0 := (HB.out.cell (World.block_lt_of_cell? w _ hx175_0)).trans hx175_0
        replace hx175_1 := (HB.out.cell (World.block_lt_of_cell? w _ hx175_1)).trans hx175_1
        replace p175 := eq_true p175;replace q175 := eq_true q175;go_wp2
        go_ret
        exact ⟨by first | rfl | (simp [errW_none, errW_some] <;> rfl) | (simp [*, errW_none, errW_some] <;> rfl), by repeat (first | (with_reducible first | exact HB.out | apply below_alloc | apply pw_below_drewN | apply below_drew1 | refine below_set ?_ GE172.out) | exact HB.out)⟩
       ·rw [if_neg c9] at H
        have c9b0 : (((rd_T41 (rd_L3 l0_1 a1) x7_1).f0) == a2) = false := beq_eq_false_iff_ne.mpr c9
        have c9b1 : (((rd_T41 (rd_L3 l0_1 a1) x7_1).f0) != a2) = true := bne_iff_ne.mpr c9
        have H' := Aside0.mk H
        clear H;have hcz11_0 : wr.cell? ⟨gb172, 0, none⟩ = some (.slice A0_0 l0_0.length c0_0) := (blk_cell BK172.out 0).trans rfl
        have hcz11_1 : wr.cell? ⟨gb172, 1, none⟩ = some (.slice A0_1 l0_1.length c0_1) := (blk_cell BK172.out 1).trans rfl
        have hfz11_0 := blk_frozen BK172.out 0
        have hfz11_1 := blk_frozen BK172.out 1
        have p173 : 0 ≤ (a1 : Int) := of_decide_eq_true (by first | (with_reducible assumption) | assumption)
        have q173 : a1 < (l0_1.length : Int) := of_decide_eq_true (by first | (with_reducible assumption) | assumption)
        obtain ⟨ad173, A173_0, c173_0, e173, hx173_0, hl173_0, hi173_0⟩ := at_L3 HR0_1.out a1 p173 q173
        cases e173;replace hx173_0 := (HB.out.cell (World.block_lt_of_cell? w _ hx173_0)).trans hx173_0
        have HR173_0 := Aside0.mk hi173_0
        have HC173_0 := Aside0.mk hl173_0
        clear hi173_0 hl173_0;replace p173 := eq_true p173;replace q173 := eq_true q173;have p174 : 0 ≤ (a1 : Int) := of_decide_eq_true (by first | (with_reducible assumption) | assumption)
        have q174 : a1 < (l0_1.length : Int) := of_decide_eq_true (by first | (with_reducible assumption) | assumption)
        obtain ⟨ad174, A174_0, c174_0, e174, hx174_0, hl174_0, hi174_0⟩ := at_L3 HR0_1.out a1 p174 q174
        obtain rfl : ad173 = ad174 := (by injection e174)
        replace hx174_0 := (HB.out.cell (World.block_lt_of_cell? w _ hx174_0)).trans hx174_0
        have HR174_0 := Aside0.mk hi174_0
        have HC174_0 := Aside0.mk hl174_0
        clear hi174_0 hl174_0;replace p174 := eq_true p174;replace q174 := eq_true q174;have ea_ := Option.some.inj (hx173_0.symm.trans hx174_0)
        injection ea_ with ea_ en_ ec_
        subst ea_;subst ec_;clear en_;have p175 : 0 ≤ (x7_1 : Int) := of_decide_eq_true (by first | (with_reducible assumption) | assumption)
        have q175 : x7_1 < ((rd_L3 l0_1 a1).length : Int) := of_decide_eq_true (by first | (with_reducible assumption) | assumption)
        obtain ⟨ad175, e175, hx175_0, hx175_1⟩ := at_T41 HR174_0.out x7_1 p175 q175
        cases e175;replace hx175_0 := (HB.out.cell (World.block_lt_of_cell? w _ hx175_0)).trans hx175_0
        replace hx175_1 := (HB.out.cell (World.block_lt_of_cell? w _ hx175_1)).trans hx175_1
        replace p175 := eq_true p175;replace q175 := eq_true q175;go_wp2
        go_roundg k1
        case measure => have := HK1.out; omega
        case rel => exact ⟨(wrap64 (x7_1 + 1)), (by first | rfl | (simp; done) | (simp [*]; done)), H', ⟨by have := HK1.out; omega⟩, ⟨by (with_reducible repeat (first | refine blk_drewN ?_ _ | refine blk_drew ?_ | refine blk_alloc ?_ _)); exact BK172.out⟩, ⟨by repeat (first | (with_reducible first | exact HB.out | apply below_alloc | apply pw_below_drewN | apply below_drew1 | refine below_set ?_ GE172.out) | exact HB.out)⟩⟩
      ·rw [if_neg c8] at H
       exact absurd H (by simp)
     ·rw [if_neg c7] at H
      have c7b0 : decide (x7_1 < ((rd_L3 l0_1 a1).length : Int)) = false := decide_eq_false c7
      clear c7;obtain rfl := Option.some.inj H
      have hcz12_0 : wr.cell? ⟨gb172, 0, none⟩ = some (.slice A0_0 l0_0.length c0_0) := (blk_cell BK172.out 0).trans rfl
      have hcz12_1 : wr.cell? ⟨gb172, 1, none⟩ = some (.slice A0_1 l0_1.length c0_1) := (blk_cell BK172.out 1).trans rfl
      have hfz12_0 := blk_frozen BK172.out 0
      have hfz12_1 := blk_frozen BK172.out 1
      have p173 : 0 ≤ (a1 : Int) := of_decide_eq_true (by first | (with_reducible assumption) | assumption)
      have q173 : a1 < (l0_1.length : Int) := of_decide_eq_true (by first | (with_reducible assumption) | assumption)
      obtain ⟨ad173, A173_0, c173_0, e173, hx173_0, hl173_0, hi173_0⟩ := at_L3 HR0_1.out a1 p173 q173
      cases e173;replace hx173_0 := (HB.out.cell (World.block_lt_of_cell? w _ hx173_0)).trans hx173_0
      have HR173_0 := Aside0.mk hi173_0
      have HC173_0 := Aside0.mk hl173_0
      clear hi173_0 hl173_0;replace p173 := eq_true p173;replace q173 := eq_true q173;go_wp2
      go_ret
      exact ⟨by first | rfl | (simp [errW_none, errW_some] <;> rfl) | (simp [*, errW_none, errW_some] <;> rfl), by repeat (first | (with_reducible first | exact HB.out | apply below_alloc | apply pw_below_drewN | apply below_drew1 | refine below_set ?_ GE172.out) | exact HB.out)⟩
    ·rw [if_neg c6] at H
     exact absurd H (by simp)
   ·rw [if_neg c5] at H
    exact absurd H (by simp)
end Go.Proofs.YtinfejpkjddbiaaDoor.P
