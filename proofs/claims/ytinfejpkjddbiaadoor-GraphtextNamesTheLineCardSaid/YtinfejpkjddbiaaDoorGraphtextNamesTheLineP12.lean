/- Part of the proof of the law GraphtextNamesTheLine: P12. -/
import Derived.Test.YtinfejpkjddbiaaDoorGraphtextNamesTheLineP0
import Derived.Test.YtinfejpkjddbiaaDoorGraphtextNamesTheLineP6
import Derived.Test.YtinfejpkjddbiaaDoorGraphtextNamesTheLineP11
import Derived.Test.YtinfejpkjddbiaaDoorGraphtextNamesTheLinePk
namespace Go.Proofs.YtinfejpkjddbiaaDoor.P
open Go.Proofs.YtinfejpkjddbiaaDoor.Pk
open Go.RowKit Go.Proofs.YtinfejpkjddbiaaDoorW.PrintWords Go.Proofs.YtinfejpkjddbiaaDoorW.PrintLast Go.Proofs.YtinfejpkjddbiaaDoorW.PrintMore
attribute [local go_sem] max2_int min2_int max_two min_two max_three min_three max_four min_four
set_option linter.unusedVariables false
set_option linter.unusedSimpArgs false
mutual
def selfstabref02_Format.l0 : Nat → ByteArray → Int → List Int → List (List (S41)) → Option (ByteArray × Int)
 | 0, _, _, _, _ => none
 | k + 1, x4, x5, x288000, x288001 => if x5 < (x288001.length : Int) then (if 0 ≤ x5 then (if x5 < (x288000.length : Int) then ((selfstabref02_Decimal.f k (rd x288000 x5)).bind fun t290 => (if 5 + t290.size ≤ 9223372036854775807 then (if x4.size + ((⟨#[110, 111, 100, 101, 32]⟩ : ByteArray) ++ t290).size ≤ 9223372036854775807 then (selfstabref02_Format.l1 k (x4 ++ ((⟨#[110, 111, 100, 101, 32]⟩ : ByteArray) ++ t290)) x5 0 x288000 x288001) else (none)) else (none))) else (none)) else (none)) else (some (x4, 0))
def selfstabref02_Format.l1 : Nat → ByteArray → Int → Int → List Int → List (List (S41)) → Option (ByteArray × Int)
 | 0, _, _, _, _, _ => none
 | k + 1, x4, x5, x6, x288000, x288001 => if 0 ≤ x5 then (if x5 < (x288001.length : Int) then (if x6 < ((rd_L3 x288001 x5).length : Int) then (if 0 ≤ x6 then ((selfstabref02_Decimal.f k ((rd_T41 (rd_L3 x288001 x5) x6).f0)).bind fun t294 => (if 1 + t294.size ≤ 9223372036854775807 then (if ((⟨#[32]⟩ : ByteArray) ++ t294).size + 1 ≤ 9223372036854775807 then ((selfstabref02_Decimal.f k ((rd_T41 (rd_L3 x288001 x5) x6).f1)).bind fun t297 => (if (((⟨#[32]⟩ : ByteArray) ++ t294) ++ (⟨#[47]⟩ : ByteArray)).size + t297.size ≤ 9223372036854775807 then (if x4.size + ((((⟨#[32]⟩ : ByteArray) ++ t294) ++ (⟨#[47]⟩ : ByteArray)) ++ t297).size ≤ 9223372036854775807 then (selfstabref02_Format.l1 k (x4 ++ ((((⟨#[32]⟩ : ByteArray) ++ t294) ++ (⟨#[47]⟩ : ByteArray)) ++ t297)) x5 (wrap64 (x6 + 1)) x288000 x288001) else (none)) else (none))) else (none)) else (none))) else (none)) else (if x4.size + 1 ≤ 9223372036854775807 then (selfstabref02_Format.l0 k (x4 ++ (⟨#[10]⟩ : ByteArray)) (wrap64 (x5 + 1)) x288000 x288001) else (none))) else (none)) else (none)
end
def selfstabref02_Format.f (k : Nat) (l0_0 : List Int) (l0_1 : List (List (S41))) : Option (ByteArray × Int) := (selfstabref01_Valid.f k l0_0 l0_1).bind fun t288 => (if t288 = true then (selfstabref02_Format.l0 k (⟨#[]⟩ : ByteArray) 0 l0_0 l0_1) else (some ((⟨#[]⟩ : ByteArray), 1)))
def selfstabref02_Format.T11 : Bool × List (List Nat × List Nat) := (true, [([], []), ([], []), ([1], [1]), ([], []), ([2, 3], [2, 3]), ([4], [4]), ([], []), ([5, 6], [5, 6]), ([7], [7]), ([8], [8]), ([9], [9]), ([10], [10]), ([11], [11]), ([], []), ([13], [13]), ([], []), ([14, 15], [14, 15]), ([16], [16]), ([], []), ([17, 18], [17, 18]), ([19], [19]), ([20], [20]), ([21, 10], [21]), ([12, 22], [12, 22]), ([0, 23], [0, 23]), ([24, 22, 0, 1, 2, 3, 4, 5, 6, 7, 8, 9, 10, 11, 12, 13, 14, 15, 16, 17, 18, 19, 20, 21, 22, 23, 24], [0, 24])])
def selfstabref02_Format.B11 : List Nat := [0, 0, 2, 0, 14, 30, 0, 126, 254, 510, 1022, 2046, 4094, 0, 8192, 0, 57344, 122880, 0, 516096, 1040384, 2088960, 4188158, 8388606, 16777215, 33554431]
theorem selfstabref02_Format.tab11 : rtab .any (opsOf Tryd.f15 11) = selfstabref02_Format.T11 := by kernel_rfl
theorem selfstabref02_Format.bits11 : waitsOk selfstabref02_Format.T11.2 selfstabref02_Format.B11 = true := by kernel_rfl
set_option maxHeartbeats 6000000 in
set_option maxRecDepth 100000 in
theorem selfstabref02_Format.calls (k : Nat) (A0_0 : Option Addr) (c0_0 : Nat) (l0_0 : List Int) (A0_1 : Option Addr) (c0_1 : Nat) (l0_1 : List (List (S41))) (r1 : ByteArray) (r2 : Int) (w : World) (hr0_0 : Kd.C (Kd.int .i64) w A0_0 l0_0.length l0_0) (hc0_0 : l0_0.length ≤ c0_0) (hr0_1 : Kd.C (Kd.slice 41 k41) w A0_1 l0_1.length l0_1) (hc0_1 : l0_1.length ≤ c0_1) (h : selfstabref02_Format.f k l0_0 l0_1 = some (r1, r2)) :
  Calls Tryd.prog 15 #[.agg #[.slice A0_0 l0_0.length c0_0, .slice A0_1 l0_1.length c0_1]] w fun e w' => e = .returned (.tuple #[.string r1, .int .i64 r2]) ∧ Below w.heap.size w w' := by
 have hu26 := Tryd.underlying26
 have HR0_0 := Aside0.mk hr0_0
 have HC0_0 := Aside0.mk hc0_0
 clear hr0_0 hc0_0;have HR0_1 := Aside0.mk hr0_1
 have HC0_1 := Aside0.mk hc0_1
 clear hr0_1 hc0_1;have HB := Aside0.mk (Below.refl w.heap.size w)
 have H : ((selfstabref01_Valid.f k l0_0 l0_1).bind fun t288 => (if t288 = true then (selfstabref02_Format.l0 k (⟨#[]⟩ : ByteArray) 0 l0_0 l0_1) else (some ((⟨#[]⟩ : ByteArray), 1)))) = some (r1, r2) := h
 clear h;replace H := Option.bind_eq_some_iff.mp H
 obtain ⟨t288, A20, H⟩ := H
 replace H : (if t288 = true then (selfstabref02_Format.l0 k (⟨#[]⟩ : ByteArray) 0 l0_0 l0_1) else (some ((⟨#[]⟩ : ByteArray), 1))) = some (r1, r2) := H
 have A2 := Aside0.mk A20
 clear A20;by_cases c3 : t288 = true
 ·subst c3;have H1 : (selfstabref02_Format.l0 k (⟨#[]⟩ : ByteArray) 0 l0_0 l0_1) = some (r1, r2) := by rw [if_pos rfl] at H; exact H
  clear H;have H := H1
  clear H1;have H' := Aside0.mk H
  clear H;go_enter Tryd.func15, Tryd.ntmps15
  go_wp2_with (first | ((with_reducible refine gate_dst (N := 1) rfl ?_); refine box_event ?hg (N := 1) ?hd (cs := #[.slice A0_0 l0_0.length c0_0, .slice A0_1 l0_1.length c0_1]) (t := 26) ?hr ?_; (case hd => rfl); (case hg => rfl); (case hr => first | (go_simp; done) | (go_simp; rfl)); intro gb287 hg w4 hbox hb; have n0_ := Aside0.mk (below_step (by repeat (first | (with_reducible first | exact HB.out | apply below_alloc | apply pw_below_drewN | apply below_drew1) | exact HB.out)) hb); have n1_ := Aside0.mk (hbox); have n2_ := Aside0.mk ((by rw [hg]; exact (below_size (by repeat (first | (with_reducible first | exact HB.out | apply below_alloc | apply pw_below_drewN | apply below_drew1) | exact HB.out))) : w.heap.size ≤ gb287)); have n3_ := Aside0.mk ((by rw [hg]; exact (below_size (by repeat (first | (with_reducible first | exact HB.out | apply below_alloc | apply pw_below_drewN | apply below_drew1) | exact HB.out))) : w.heap.size ≤ gb287)); clear HB; have HB := n0_; have BK287 := n1_; have GW287 := n2_; have GE287 := n3_; clear n0_ n1_ n2_ n3_; clear hb hbox hg; have hcz5_0 : w4.cell? ⟨gb287, 0, none⟩ = some (.slice A0_0 l0_0.length c0_0) := (blk_cell BK287.out 0).trans rfl; have hcz5_1 : w4.cell? ⟨gb287, 1, none⟩ = some (.slice A0_1 l0_1.length c0_1) := (blk_cell BK287.out 1).trans rfl; have hfz5_0 := blk_frozen BK287.out 0; have hfz5_1 := blk_frozen BK287.out 1) | ((with_reducible refine gate_callee (f := 14) rfl ?_); refine goesL_ (some 8) rfl rfl Tryd.func14 (by kernel_rfl) rfl #[.agg #[.slice A0_0 l0_0.length c0_0, .slice A0_1 l0_1.length c0_1]] rfl (by (try simp only [List.map_toArray, List.map_cons, List.map_nil]); first | done | rfl | (simp only [List.length_drop, List.length_take]; rfl)) ?_; (with_reducible refine (selfstabref01_Valid.calls k _ _ l0_0 _ _ l0_1 true _ ?side1 ?side2 ?side3 ?side4 A2.out).mono ?_); (case side1 => repeat (first | exact (Kd.C_below HR0_0.out HB.out) | (with_reducible refine Kd.C_alloc ?_ _) | (with_reducible refine Kd.C_drewN ?_ _) | (with_reducible refine Kd.C_drew ?_))); (case side2 => exact HC0_0.out); (case side3 => repeat (first | exact (Kd.C_below HR0_1.out HB.out) | (with_reducible refine Kd.C_alloc ?_ _) | (with_reducible refine Kd.C_drewN ?_ _) | (with_reducible refine Kd.C_drew ?_))); (case side4 => exact HC0_1.out); rintro e w6 ⟨rfl, hb⟩; refine ⟨_, rfl, ?_⟩; have n0_ := Aside0.mk (blk_below (g := gb287) (o := .cells #[.slice A0_0 l0_0.length c0_0, .slice A0_1 l0_1.length c0_1] 26 (0, 0)) (by (with_reducible repeat (first | refine blk_drewN ?_ _ | refine blk_drew ?_ | refine blk_alloc ?_ _)); exact BK287.out) hb); have n1_ := Aside0.mk (below_step (by repeat (first | (with_reducible first | exact HB.out | apply below_alloc | apply pw_below_drewN | apply below_drew1 | refine below_set ?_ GE287.out) | exact HB.out)) hb); clear BK287; clear HB; have BK287 := n0_; have HB := n1_; clear n0_ n1_; (try clear hb); (try clear hb2); (try clear hk); (try clear hi)))
  go_loopg [4, 5] k (fun kq v4 v5 w' => ∃ (x4_1 : ByteArray) (x5_1 : Int), v4 = .string x4_1 ∧ v5 = .int .i64 x5_1 ∧ Aside0 (selfstabref02_Format.l0 kq x4_1 x5_1 l0_0 l0_1 = some (r1, r2)) ∧ Aside0 (kq ≤ k) ∧ Aside0 (w'.heap[gb287]? = some (.cells #[(.slice A0_0 l0_0.length c0_0), (.slice A0_1 l0_1.length c0_1)] 26 (0, 0))) ∧ Aside0 (Below w.heap.size w w'))
  case atStart => exact ⟨((⟨#[]⟩ : ByteArray)), (0), (by first | rfl | (simp; done) | (simp [*]; done)), (by first | rfl | (simp; done) | (simp [*]; done)), H', ⟨Nat.le_refl _⟩, ⟨by (with_reducible repeat (first | refine blk_drewN ?_ _ | refine blk_drew ?_ | refine blk_alloc ?_ _)); exact BK287.out⟩, ⟨by repeat (first | (with_reducible first | exact HB.out | apply below_alloc | apply pw_below_drewN | apply below_drew1 | refine below_set ?_ GE287.out) | exact HB.out)⟩⟩
  case round =>
   clear H';try clear c3
   try clear hcz5_0
   try clear hcz5_1
   try clear hfz5_0
   try clear hfz5_1
   obtain ⟨x4_1, x5_1, rfl, rfl, HA, HK1, BK287, HB⟩ := hrel
   cases gk with
   | zero => exact absurd HA.out (by simp [selfstabref02_Format.l0])
   | succ k1 =>
    have H := HA.out
    clear HA;simp only [selfstabref02_Format.l0] at H
    by_cases c7 : x5_1 < (l0_1.length : Int)
    ·rw [if_pos c7] at H
     have c7b0 : decide (x5_1 < (l0_1.length : Int)) = true := decide_eq_true c7
     clear c7;by_cases c8 : 0 ≤ x5_1
     ·rw [if_pos c8] at H
      have c8b0 : decide (0 ≤ x5_1) = true := decide_eq_true c8
      clear c8;by_cases c9 : x5_1 < (l0_0.length : Int)
      ·rw [if_pos c9] at H
       have c9b0 : decide (x5_1 < (l0_0.length : Int)) = true := decide_eq_true c9
       clear c9;replace H := Option.bind_eq_some_iff.mp H
       obtain ⟨t290, A100, H⟩ := H
       replace H : (if 5 + t290.size ≤ 9223372036854775807 then (if x4_1.size + ((⟨#[110, 111, 100, 101, 32]⟩ : ByteArray) ++ t290).size ≤ 9223372036854775807 then (selfstabref02_Format.l1 k1 (x4_1 ++ ((⟨#[110, 111, 100, 101, 32]⟩ : ByteArray) ++ t290)) x5_1 0 l0_0 l0_1) else (none)) else (none)) = some (r1, r2) := H
       have A10 := Aside0.mk A100
       clear A100;by_cases c11 : 5 + t290.size ≤ 9223372036854775807
       ·rw [if_pos c11] at H
        have c11b0 := eq_true c11
        have c11b1 : decide (5 + t290.size ≤ 9223372036854775807) = true := decide_eq_true c11
        try have c11b2 : (9223372036854775807 < 5 + t290.size) = False := eq_false (Nat.not_lt.2 c11)
        by_cases c12 : x4_1.size + ((⟨#[110, 111, 100, 101, 32]⟩ : ByteArray) ++ t290).size ≤ 9223372036854775807
        ·rw [if_pos c12] at H
         have c12b0 := eq_true c12
         have c12b1 : decide (x4_1.size + ((⟨#[110, 111, 100, 101, 32]⟩ : ByteArray) ++ t290).size ≤ 9223372036854775807) = true := decide_eq_true c12
         try have c12b2 : (9223372036854775807 < x4_1.size + ((⟨#[110, 111, 100, 101, 32]⟩ : ByteArray) ++ t290).size) = False := eq_false (Nat.not_lt.2 c12)
         have H' := Aside0.mk H
         clear H;have hcz13_0 : wr.cell? ⟨gb287, 0, none⟩ = some (.slice A0_0 l0_0.length c0_0) := (blk_cell BK287.out 0).trans rfl
         have hcz13_1 : wr.cell? ⟨gb287, 1, none⟩ = some (.slice A0_1 l0_1.length c0_1) := (blk_cell BK287.out 1).trans rfl
         have hfz13_0 := blk_frozen BK287.out 0
         have hfz13_1 := blk_frozen BK287.out 1
         have p289 : 0 ≤ (x5_1 : Int) := of_decide_eq_true (by first | (with_reducible assumption) | assumption)
         have q289 : x5_1 < (l0_0.length : Int) := of_decide_eq_true (by first | (with_reducible assumption) | assumption)
         obtain ⟨ad289, e289, hx289_0⟩ := Kd.at_int HR0_0.out x5_1 p289 q289
         cases e289;replace hx289_0 := (HB.out.cell (World.block_lt_of_cell? w _ hx289_0)).trans hx289_0
         replace p289 := eq_true p289;replace q289 := eq_true q289
         go_wp2_with (first | ((with_reducible refine gate_callee (f := 27) rfl ?_); refine goesL_ (some 23) rfl rfl Tryd.func27 (by kernel_rfl) rfl #[.int .i64 (rd l0_0 x5_1)] rfl (by (try simp only [List.map_toArray, List.map_cons, List.map_nil]); first | done | rfl | (simp only [List.length_drop, List.length_take]; rfl)) ?_; (with_reducible refine (selfstabref02_Decimal.calls k1 (rd l0_0 x5_1) t290 _ A10.out).mono ?_); rintro e w14 ⟨rfl, hb⟩; refine ⟨_, rfl, ?_⟩; have n0_ := Aside0.mk (blk_below (g := gb287) (o := .cells #[.slice (some ad289) l0_0.length c0_0, .slice A0_1 l0_1.length c0_1] 26 (0, 0)) (by (with_reducible repeat (first | refine blk_drewN ?_ _ | refine blk_drew ?_ | refine blk_alloc ?_ _)); exact BK287.out) hb); have n1_ := Aside0.mk (below_step (by repeat (first | (with_reducible first | exact HB.out | apply below_alloc | apply pw_below_drewN | apply below_drew1 | refine below_set ?_ GE287.out) | exact HB.out)) hb); clear BK287; clear HB; have BK287 := n0_; have HB := n1_; clear n0_ n1_; (try clear hb); (try clear hb2); (try clear hk); (try clear hi)))
         go_loopg [4, 6] k1 (fun kq v4 v6 w' => ∃ (x4_2 : ByteArray) (x6_2 : Int), v4 = .string x4_2 ∧ v6 = .int .i64 x6_2 ∧ Aside0 (selfstabref02_Format.l1 kq x4_2 x5_1 x6_2 l0_0 l0_1 = some (r1, r2)) ∧ Aside0 (kq ≤ k1) ∧ Aside0 (w'.heap[gb287]? = some (.cells #[(.slice (some ad289) l0_0.length c0_0), (.slice A0_1 l0_1.length c0_1)] 26 (0, 0))) ∧ Aside0 (Below w.heap.size w w'))
         case atStart => exact ⟨(x4_1 ++ ((⟨#[110, 111, 100, 101, 32]⟩ : ByteArray) ++ t290)), (0), (by first | rfl | (simp; done) | (simp [*]; done)), (by first | rfl | (simp; done) | (simp [*]; done)), H', ⟨Nat.le_refl _⟩, ⟨by (with_reducible repeat (first | refine blk_drewN ?_ _ | refine blk_drew ?_ | refine blk_alloc ?_ _)); exact BK287.out⟩, ⟨by repeat (first | (with_reducible first | exact HB.out | apply below_alloc | apply pw_below_drewN | apply below_drew1 | refine below_set ?_ GE287.out) | exact HB.out)⟩⟩
         case round =>
          clear H';try clear c3
          try clear c7
          try clear c7b0
          try clear c8
          try clear c8b0
          try clear c9
          try clear c9b0
          try clear c11
          try clear c11b0
          try clear c11b1
          try clear c11b2
          try clear c12
          try clear c12b0
          try clear c12b1
          try clear c12b2
          try clear hcz13_0
          try clear hcz13_1
          try clear hcz5_0
          try clear hcz5_1
          try clear hfz13_0
          try clear hfz13_1
          try clear hfz5_0
          try clear hfz5_1
          try clear hx289_0
          try clear p289
          try clear q289
          obtain ⟨x4_2, x6_2, rfl, rfl, HA, HK2, BK287, HB⟩ := hrel
          cases gk with
          | zero => exact absurd HA.out (by simp [selfstabref02_Format.l1])
          | succ k2 =>
           have H := HA.out
           clear HA;simp only [selfstabref02_Format.l1] at H
           by_cases c15 : 0 ≤ x5_1
           ·rw [if_pos c15] at H
            have c15b0 : decide (0 ≤ x5_1) = true := decide_eq_true c15
            clear c15;by_cases c16 : x5_1 < (l0_1.length : Int)
            ·rw [if_pos c16] at H
             have c16b0 : decide (x5_1 < (l0_1.length : Int)) = true := decide_eq_true c16
             clear c16;by_cases c17 : x6_2 < ((rd_L3 l0_1 x5_1).length : Int)
             ·rw [if_pos c17] at H
              have c17b0 : decide (x6_2 < ((rd_L3 l0_1 x5_1).length : Int)) = true := decide_eq_true c17
              clear c17;by_cases c18 : 0 ≤ x6_2
              ·rw [if_pos c18] at H
               have c18b0 : decide (0 ≤ x6_2) = true := decide_eq_true c18
               clear c18;replace H := Option.bind_eq_some_iff.mp H
               obtain ⟨t294, A190, H⟩ := H
               replace H : (if 1 + t294.size ≤ 9223372036854775807 then (if ((⟨#[32]⟩ : ByteArray) ++ t294).size + 1 ≤ 9223372036854775807 then ((selfstabref02_Decimal.f k2 ((rd_T41 (rd_L3 l0_1 x5_1) x6_2).f1)).bind fun t297 => (if (((⟨#[32]⟩ : ByteArray) ++ t294) ++ (⟨#[47]⟩ : ByteArray)).size + t297.size ≤ 9223372036854775807 then (if x4_2.size + ((((⟨#[32]⟩ : ByteArray) ++ t294) ++ (⟨#[47]⟩ : ByteArray)) ++ t297).size ≤ 9223372036854775807 then (selfstabref02_Format.l1 k2 (x4_2 ++ ((((⟨#[32]⟩ : ByteArray) ++ t294) ++ (⟨#[47]⟩ : ByteArray)) ++ t297)) x5_1 (wrap64 (x6_2 + 1)) l0_0 l0_1) else (none)) else (none))) else (none)) else (none)) = some (r1, r2) := H
               have A19 := Aside0.mk A190
               clear A190;by_cases c20 : 1 + t294.size ≤ 9223372036854775807
               ·rw [if_pos c20] at H
                have c20b0 := eq_true c20
                have c20b1 : decide (1 + t294.size ≤ 9223372036854775807) = true := decide_eq_true c20
                try have c20b2 : (9223372036854775807 < 1 + t294.size) = False := eq_false (Nat.not_lt.2 c20)
                by_cases c21 : ((⟨#[32]⟩ : ByteArray) ++ t294).size + 1 ≤ 9223372036854775807
                ·rw [if_pos c21] at H
                 have c21b0 := eq_true c21
                 have c21b1 : decide (((⟨#[32]⟩ : ByteArray) ++ t294).size + 1 ≤ 9223372036854775807) = true := decide_eq_true c21
                 try have c21b3 : (9223372036854775807 < 1 + t294.size + 1) = False := eq_false (by have h_ := c21; have hl0_ : (⟨#[32]⟩ : ByteArray).size = 1 := rfl; simp only [ByteArray.size_append, ByteArray.size_extract] at h_; omega)
                 try have c21b2 : (9223372036854775807 < ((⟨#[32]⟩ : ByteArray) ++ t294).size + 1) = False := eq_false (Nat.not_lt.2 c21)
                 replace H := Option.bind_eq_some_iff.mp H
                 obtain ⟨t297, A220, H⟩ := H
                 replace H : (if (((⟨#[32]⟩ : ByteArray) ++ t294) ++ (⟨#[47]⟩ : ByteArray)).size + t297.size ≤ 9223372036854775807 then (if x4_2.size + ((((⟨#[32]⟩ : ByteArray) ++ t294) ++ (⟨#[47]⟩ : ByteArray)) ++ t297).size ≤ 9223372036854775807 then (selfstabref02_Format.l1 k2 (x4_2 ++ ((((⟨#[32]⟩ : ByteArray) ++ t294) ++ (⟨#[47]⟩ : ByteArray)) ++ t297)) x5_1 (wrap64 (x6_2 + 1)) l0_0 l0_1) else (none)) else (none)) = some (r1, r2) := H
                 have A22 := Aside0.mk A220
                 clear A220;by_cases c23 : (((⟨#[32]⟩ : ByteArray) ++ t294) ++ (⟨#[47]⟩ : ByteArray)).size + t297.size ≤ 9223372036854775807
                 ·rw [if_pos c23] at H
                  have c23b0 := eq_true c23
                  have c23b1 : decide ((((⟨#[32]⟩ : ByteArray) ++ t294) ++ (⟨#[47]⟩ : ByteArray)).size + t297.size ≤ 9223372036854775807) = true := decide_eq_true c23
                  try have c23b3 : (9223372036854775807 < 1 + t294.size + 1 + t297.size) = False := eq_false (by have h_ := c23; have hl0_ : (⟨#[32]⟩ : ByteArray).size = 1 := rfl; have hl1_ : (⟨#[47]⟩ : ByteArray).size = 1 := rfl; simp only [ByteArray.size_append, ByteArray.size_extract] at h_; omega)
                  try have c23b2 : (9223372036854775807 < (((⟨#[32]⟩ : ByteArray) ++ t294) ++ (⟨#[47]⟩ : ByteArray)).size + t297.size) = False := eq_false (Nat.not_lt.2 c23)
                  by_cases c24 : x4_2.size + ((((⟨#[32]⟩ : ByteArray) ++ t294) ++ (⟨#[47]⟩ : ByteArray)) ++ t297).size ≤ 9223372036854775807
                  ·rw [if_pos c24] at H
                   have c24b0 := eq_true c24
                   have c24b1 : decide (x4_2.size + ((((⟨#[32]⟩ : ByteArray) ++ t294) ++ (⟨#[47]⟩ : ByteArray)) ++ t297).size ≤ 9223372036854775807) = true := decide_eq_true c24
                   try have c24b2 : (9223372036854775807 < x4_2.size + ((((⟨#[32]⟩ : ByteArray) ++ t294) ++ (⟨#[47]⟩ : ByteArray)) ++ t297).size) = False := eq_false (Nat.not_lt.2 c24)
                   have H' := Aside0.mk H
                   clear H;have hcz25_0 : wr.cell? ⟨gb287, 0, none⟩ = some (.slice (some ad289) l0_0.length c0_0) := (blk_cell BK287.out 0).trans rfl
                   have hcz25_1 : wr.cell? ⟨gb287, 1, none⟩ = some (.slice A0_1 l0_1.length c0_1) := (blk_cell BK287.out 1).trans rfl
                   have hfz25_0 := blk_frozen BK287.out 0
                   have hfz25_1 := blk_frozen BK287.out 1
                   have p291 : 0 ≤ (x5_1 : Int) := of_decide_eq_true (by first | (with_reducible assumption) | assumption)
                   have q291 : x5_1 < (l0_1.length : Int) := of_decide_eq_true (by first | (with_reducible assumption) | assumption)
                   obtain ⟨ad291, A291_0, c291_0, e291, hx291_0, hl291_0, hi291_0⟩ := at_L3 HR0_1.out x5_1 p291 q291
                   cases e291;replace hx291_0 := (HB.out.cell (World.block_lt_of_cell? w _ hx291_0)).trans hx291_0
                   have HR291_0 := Aside0.mk hi291_0
                   have HC291_0 := Aside0.mk hl291_0
                   clear hi291_0 hl291_0;replace p291 := eq_true p291;replace q291 := eq_true q291;try go_wp2
                   have n0_ := Aside0.mk (blk_drew BK287.out)
                   have n1_ := Aside0.mk (below_drew1 HB.out)
                   clear BK287;clear HB;have BK287 := n0_
                   have HB := n1_
                   clear n0_ n1_;have p292 : 0 ≤ (x5_1 : Int) := of_decide_eq_true (by first | (with_reducible assumption) | assumption)
                   have q292 : x5_1 < (l0_1.length : Int) := of_decide_eq_true (by first | (with_reducible assumption) | assumption)
                   obtain ⟨ad292, A292_0, c292_0, e292, hx292_0, hl292_0, hi292_0⟩ := at_L3 HR0_1.out x5_1 p292 q292
                   have hw292_0 := hx292_0
                   obtain rfl : ad291 = ad292 := (by injection e292)
                   replace hx292_0 := (HB.out.cell (World.block_lt_of_cell? w _ hx292_0)).trans hx292_0
                   have HR292_0 := Aside0.mk hi292_0
                   have HC292_0 := Aside0.mk hl292_0
                   clear hi292_0 hl292_0;replace p292 := eq_true p292;replace q292 := eq_true q292;have p293 : 0 ≤ (x6_2 : Int) := of_decide_eq_true (by first | (with_reducible assumption) | assumption)
                   have q293 : x6_2 < ((rd_L3 l0_1 x5_1).length : Int) := of_decide_eq_true (by first | (with_reducible assumption) | assumption)
                   obtain ⟨ad293, e293, hx293_0, hx293_1⟩ := at_T41 HR292_0.out x6_2 p293 q293
                   have hw293_1 := hx293_1
                   have hw293_0 := hx293_0
                   cases e293;replace hx293_0 := (HB.out.cell (World.block_lt_of_cell? w _ hx293_0)).trans hx293_0
                   replace hx293_1 := (HB.out.cell (World.block_lt_of_cell? w _ hx293_1)).trans hx293_1
                   replace p293 := eq_true p293;replace q293 := eq_true q293;have p295 : 0 ≤ (x5_1 : Int) := of_decide_eq_true (by first | (with_reducible assumption) | assumption)
                   have q295 : x5_1 < (l0_1.length : Int) := of_decide_eq_true (by first | (with_reducible assumption) | assumption)
                   obtain ⟨ad295, A295_0, c295_0, e295, hx295_0, hl295_0, hi295_0⟩ := at_L3 HR0_1.out x5_1 p295 q295
                   have hw295_0 := hx295_0
                   obtain rfl : ad291 = ad295 := (by injection e295)
                   replace hx295_0 := (HB.out.cell (World.block_lt_of_cell? w _ hx295_0)).trans hx295_0
                   have HR295_0 := Aside0.mk hi295_0
                   have HC295_0 := Aside0.mk hl295_0
                   clear hi295_0 hl295_0;replace p295 := eq_true p295;replace q295 := eq_true q295;have ea_ := Option.some.inj (hx292_0.symm.trans hx295_0)
                   injection ea_ with ea_ en_ ec_
                   subst ea_;subst ec_;clear en_;have p296 : 0 ≤ (x6_2 : Int) := of_decide_eq_true (by first | (with_reducible assumption) | assumption)
                   have q296 : x6_2 < ((rd_L3 l0_1 x5_1).length : Int) := of_decide_eq_true (by first | (with_reducible assumption) | assumption)
                   obtain ⟨ad296, e296, hx296_0, hx296_1⟩ := at_T41 HR295_0.out x6_2 p296 q296
                   have hw296_1 := hx296_1
                   have hw296_0 := hx296_0
                   cases e296;replace hx296_0 := (HB.out.cell (World.block_lt_of_cell? w _ hx296_0)).trans hx296_0
                   replace hx296_1 := (HB.out.cell (World.block_lt_of_cell? w _ hx296_1)).trans hx296_1
                   replace p296 := eq_true p296;replace q296 := eq_true q296
                   refine start_ (n := 26) (S := fun w' => w'.cell? ⟨gb287, 0, none⟩ = some (.slice (some ad289) l0_0.length c0_0) ∧ w'.cell? ⟨gb287, 1, none⟩ = some (.slice (some ad291) l0_1.length c0_1) ∧ w'.cell? (ad291.add (x5_1).toNat) = some (.slice (some ad293) (rd_L3 l0_1 x5_1).length c292_0) ∧ w'.cell? (ad293.add ((x6_2).toNat * 2)) = some (.int .i64 ((rd_T41 (rd_L3 l0_1 x5_1) x6_2).f0)) ∧ w'.cell? ⟨(ad293.add ((x6_2).toNat * 2)).block, (ad293.add ((x6_2).toNat * 2)).off + 1, none⟩ = some (.int .i64 ((rd_T41 (rd_L3 l0_1 x5_1) x6_2).f1)) ∧ w'.cell? (ad291.add (x5_1).toNat) = some (.slice (some ad293) (rd_L3 l0_1 x5_1).length c292_0) ∧ w'.cell? (ad293.add ((x6_2).toNat * 2)) = some (.int .i64 ((rd_T41 (rd_L3 l0_1 x5_1) x6_2).f0)) ∧ w'.cell? ⟨(ad293.add ((x6_2).toNat * 2)).block, (ad293.add ((x6_2).toNat * 2)).off + 1, none⟩ = some (.int .i64 ((rd_T41 (rd_L3 l0_1 x5_1) x6_2).f1))) (ds := []) #[B0,B0,B0,B0,B0,B0,B0,B0,B0,B0,B0,B0,B0,B0,B0,B0,B0,B0,B0,B0,B0,B0,B0,B0,B0,B0] (by kernel_rfl) rfl rfl ⟨(blk_cell BK287.out 0).trans rfl, (blk_cell BK287.out 1).trans rfl, ((HB.out.cell (World.block_lt_of_cell? w _ hw292_0)).trans hw292_0), ((HB.out.cell (World.block_lt_of_cell? w _ hw293_0)).trans hw293_0), ((HB.out.cell (World.block_lt_of_cell? w _ hw293_1)).trans hw293_1), ((HB.out.cell (World.block_lt_of_cell? w _ hw295_0)).trans hw295_0), ((HB.out.cell (World.block_lt_of_cell? w _ hw296_0)).trans hw296_0), ((HB.out.cell (World.block_lt_of_cell? w _ hw296_1)).trans hw296_1)⟩ (fun hHeld => ?_); refine with_tabW selfstabref02_Format.tab11 selfstabref02_Format.bits11 (fun HT_ HW_ => ?_)
                   generalize wr.drew = w26 at BK287 HB HR292_0 HR295_0 hx292_0 hx293_0 hx293_1 hx295_0 hx296_0 hx296_1 hHeld ⊢
                   refine pure_ (i := 0) (N := some 36) (v := ?_) (a' := ?_) #[B1,B0,B0,B0,B0,B0,B0,B0,B0,B0,B0,B0,B0,B0,B0,B0,B0,B0,B0,B0,B0,B0,B0,B0,B0,B0] rfl rfl (any_of HT_.out (by kernel_rfl)) (fun _ _ _ h => h) (Or.inl ⟨by rfl, ?_⟩) ?_ ?_
                   rotate_left
                   ·intro w';go_simp;with_reducible rfl
                   rotate_left
                   ·simp only [Act.put, List.setIfInBounds_toArray, List.set_cons_zero, List.set_cons_succ, i64_w, i32_w];rfl
                   refine pure_ (i := 1) (N := some 37) (v := ?_) (a' := ?_) #[B1,B1,B0,B0,B0,B0,B0,B0,B0,B0,B0,B0,B0,B0,B0,B0,B0,B0,B0,B0,B0,B0,B0,B0,B0,B0] rfl rfl (any_of HT_.out (by kernel_rfl)) (fun _ _ _ h => h) (Or.inl ⟨by rfl, ?_⟩) ?_ ?_
                   rotate_left
                   ·intro w';go_simp;with_reducible rfl
                   rotate_left
                   ·simp only [Act.put, List.setIfInBounds_toArray, List.set_cons_zero, List.set_cons_succ, i64_w, i32_w];rfl
                   refine pure_ (i := 3) (N := some 39) (v := ?_) (a' := ?_) #[B1,B1,B0,B1,B0,B0,B0,B0,B0,B0,B0,B0,B0,B0,B0,B0,B0,B0,B0,B0,B0,B0,B0,B0,B0,B0] rfl rfl (any_of HT_.out (by kernel_rfl)) (fun _ _ _ h => h) (Or.inl ⟨by rfl, ?_⟩) ?_ ?_
                   rotate_left
                   ·intro w';go_simp;with_reducible rfl
                   rotate_left
                   ·simp only [Act.put, List.setIfInBounds_toArray, List.set_cons_zero, List.set_cons_succ, i64_w, i32_w];rfl
                   refine pure_ (i := 6) (N := some 42) (v := ?_) (a' := ?_) #[B1,B1,B0,B1,B0,B0,B1,B0,B0,B0,B0,B0,B0,B0,B0,B0,B0,B0,B0,B0,B0,B0,B0,B0,B0,B0] rfl rfl (any_of HT_.out (by kernel_rfl)) (fun _ _ _ h => h) (Or.inl ⟨by rfl, ?_⟩) ?_ ?_
                   rotate_left
                   ·intro w';go_simp;with_reducible rfl
                   rotate_left
                   ·simp only [Act.put, List.setIfInBounds_toArray, List.set_cons_zero, List.set_cons_succ, i64_w, i32_w];rfl
                   refine pure_ (i := 13) (N := some 49) (v := ?_) (a' := ?_) #[B1,B1,B0,B1,B0,B0,B1,B0,B0,B0,B0,B0,B0,B1,B0,B0,B0,B0,B0,B0,B0,B0,B0,B0,B0,B0] rfl rfl (any_of HT_.out (by kernel_rfl)) (fun _ _ _ h => h) (Or.inl ⟨by rfl, ?_⟩) ?_ ?_
                   rotate_left
                   ·intro w';go_simp;with_reducible rfl
                   rotate_left
                   ·simp only [Act.put, List.setIfInBounds_toArray, List.set_cons_zero, List.set_cons_succ, i64_w, i32_w];rfl
                   refine pure_ (i := 15) (N := some 51) (v := ?_) (a' := ?_) #[B1,B1,B0,B1,B0,B0,B1,B0,B0,B0,B0,B0,B0,B1,B0,B1,B0,B0,B0,B0,B0,B0,B0,B0,B0,B0] rfl rfl (any_of HT_.out (by kernel_rfl)) (fun _ _ _ h => h) (Or.inl ⟨by rfl, ?_⟩) ?_ ?_
                   rotate_left
                   ·intro w';go_simp;with_reducible rfl
                   rotate_left
                   ·simp only [Act.put, List.setIfInBounds_toArray, List.set_cons_zero, List.set_cons_succ, i64_w, i32_w];rfl
                   refine pure_ (i := 18) (N := some 54) (v := ?_) (a' := ?_) #[B1,B1,B0,B1,B0,B0,B1,B0,B0,B0,B0,B0,B0,B1,B0,B1,B0,B0,B1,B0,B0,B0,B0,B0,B0,B0] rfl rfl (any_of HT_.out (by kernel_rfl)) (fun _ _ _ h => h) (Or.inl ⟨by rfl, ?_⟩) ?_ ?_
                   rotate_left
                   ·intro w';go_simp;with_reducible rfl
                   rotate_left
                   ·simp only [Act.put, List.setIfInBounds_toArray, List.set_cons_zero, List.set_cons_succ, i64_w, i32_w];rfl
                   refine take_ (i := 2) (N := some 38) (v := ?_) (a' := ?_) #[B1,B1,B1,B1,B0,B0,B1,B0,B0,B0,B0,B0,B0,B1,B0,B1,B0,B0,B1,B0,B0,B0,B0,B0,B0,B0] rfl rfl (take_ofW HT_.out HW_.out (by kernel_rfl)) (fun _ _ _ h => h) (Or.inl ⟨by rfl, ?_⟩) hHeld ?_ ?_
                   rotate_left
                   ·rintro w' ⟨s0, s1, s2, s3, s4, s5, s6, s7⟩
                    go_simp;with_reducible rfl
                   rotate_left
                   ·simp only [Act.put, List.setIfInBounds_toArray, List.set_cons_zero, List.set_cons_succ, i64_w, i32_w];rfl
                   refine pure_ (i := 4) (N := some 40) (v := ?_) (a' := ?_) #[B1,B1,B1,B1,B1,B0,B1,B0,B0,B0,B0,B0,B0,B1,B0,B1,B0,B0,B1,B0,B0,B0,B0,B0,B0,B0] rfl rfl (any_of HT_.out (by kernel_rfl)) (fun _ _ _ h => h) (Or.inl ⟨by rfl, ?_⟩) ?_ ?_
                   rotate_left
                   ·intro w';go_simp;with_reducible rfl
                   rotate_left
                   ·simp only [Act.put, List.setIfInBounds_toArray, List.set_cons_zero, List.set_cons_succ, i64_w, i32_w];rfl
                   refine take_ (i := 5) (N := some 41) (v := ?_) (a' := ?_) #[B1,B1,B1,B1,B1,B1,B1,B0,B0,B0,B0,B0,B0,B1,B0,B1,B0,B0,B1,B0,B0,B0,B0,B0,B0,B0] rfl rfl (take_ofW HT_.out HW_.out (by kernel_rfl)) (fun _ _ _ h => h) (Or.inl ⟨by rfl, ?_⟩) hHeld ?_ ?_
                   rotate_left
                   ·rintro w' ⟨s0, s1, s2, s3, s4, s5, s6, s7⟩
                    go_simp;with_reducible rfl
                   rotate_left
                   ·simp only [Act.put, List.setIfInBounds_toArray, List.set_cons_zero, List.set_cons_succ, i64_w, i32_w];rfl
                   refine pure_ (i := 7) (N := some 43) (v := ?_) (a' := ?_) #[B1,B1,B1,B1,B1,B1,B1,B1,B0,B0,B0,B0,B0,B1,B0,B1,B0,B0,B1,B0,B0,B0,B0,B0,B0,B0] rfl rfl (any_of HT_.out (by kernel_rfl)) (fun _ _ _ h => h) (Or.inl ⟨by rfl, ?_⟩) ?_ ?_
                   rotate_left
                   ·intro w';go_simp;with_reducible rfl
                   rotate_left
                   ·simp only [Act.put, List.setIfInBounds_toArray, List.set_cons_zero, List.set_cons_succ, i64_w, i32_w];rfl
                   refine pure_ (i := 8) (N := some 44) (v := ?_) (a' := ?_) #[B1,B1,B1,B1,B1,B1,B1,B1,B1,B0,B0,B0,B0,B1,B0,B1,B0,B0,B1,B0,B0,B0,B0,B0,B0,B0] rfl rfl (any_of HT_.out (by kernel_rfl)) (fun _ _ _ h => h) (Or.inl ⟨by rfl, ?_⟩) ?_ ?_
                   rotate_left
                   ·intro w';go_simp;with_reducible rfl
                   rotate_left
                   ·simp only [Act.put, List.setIfInBounds_toArray, List.set_cons_zero, List.set_cons_succ, i64_w, i32_w];rfl
                   refine take_ (i := 9) (N := some 45) (v := ?_) (a' := ?_) #[B1,B1,B1,B1,B1,B1,B1,B1,B1,B1,B0,B0,B0,B1,B0,B1,B0,B0,B1,B0,B0,B0,B0,B0,B0,B0] rfl rfl (take_ofW HT_.out HW_.out (by kernel_rfl)) (fun _ _ _ h => h) (Or.inl ⟨by rfl, ?_⟩) hHeld ?_ ?_
                   rotate_left
                   ·rintro w' ⟨s0, s1, s2, s3, s4, s5, s6, s7⟩
                    go_simp;with_reducible rfl
                   rotate_left
                   ·simp only [Act.put, List.setIfInBounds_toArray, List.set_cons_zero, List.set_cons_succ, i64_w, i32_w];rfl
                   refine take_ (i := 14) (N := some 50) (v := ?_) (a' := ?_) #[B1,B1,B1,B1,B1,B1,B1,B1,B1,B1,B0,B0,B0,B1,B1,B1,B0,B0,B1,B0,B0,B0,B0,B0,B0,B0] rfl rfl (take_ofW HT_.out HW_.out (by kernel_rfl)) (fun _ _ _ h => h) (Or.inl ⟨by rfl, ?_⟩) hHeld ?_ ?_
                   rotate_left
                   ·rintro w' ⟨s0, s1, s2, s3, s4, s5, s6, s7⟩
                    go_simp;with_reducible rfl
                   rotate_left
                   ·simp only [Act.put, List.setIfInBounds_toArray, List.set_cons_zero, List.set_cons_succ, i64_w, i32_w];rfl
                   refine pure_ (i := 16) (N := some 52) (v := ?_) (a' := ?_) #[B1,B1,B1,B1,B1,B1,B1,B1,B1,B1,B0,B0,B0,B1,B1,B1,B1,B0,B1,B0,B0,B0,B0,B0,B0,B0] rfl rfl (any_of HT_.out (by kernel_rfl)) (fun _ _ _ h => h) (Or.inl ⟨by rfl, ?_⟩) ?_ ?_
                   rotate_left
                   ·intro w';go_simp;with_reducible rfl
                   rotate_left
                   ·simp only [Act.put, List.setIfInBounds_toArray, List.set_cons_zero, List.set_cons_succ, i64_w, i32_w];rfl
                   refine take_ (i := 17) (N := some 53) (v := ?_) (a' := ?_) #[B1,B1,B1,B1,B1,B1,B1,B1,B1,B1,B0,B0,B0,B1,B1,B1,B1,B1,B1,B0,B0,B0,B0,B0,B0,B0] rfl rfl (take_ofW HT_.out HW_.out (by kernel_rfl)) (fun _ _ _ h => h) (Or.inl ⟨by rfl, ?_⟩) hHeld ?_ ?_
                   rotate_left
                   ·rintro w' ⟨s0, s1, s2, s3, s4, s5, s6, s7⟩
                    go_simp;with_reducible rfl
                   rotate_left
                   ·simp only [Act.put, List.setIfInBounds_toArray, List.set_cons_zero, List.set_cons_succ, i64_w, i32_w];rfl
                   refine pure_ (i := 19) (N := some 55) (v := ?_) (a' := ?_) #[B1,B1,B1,B1,B1,B1,B1,B1,B1,B1,B0,B0,B0,B1,B1,B1,B1,B1,B1,B1,B0,B0,B0,B0,B0,B0] rfl rfl (any_of HT_.out (by kernel_rfl)) (fun _ _ _ h => h) (Or.inl ⟨by rfl, ?_⟩) ?_ ?_
                   rotate_left
                   ·intro w';go_simp;with_reducible rfl
                   rotate_left
                   ·simp only [Act.put, List.setIfInBounds_toArray, List.set_cons_zero, List.set_cons_succ, i64_w, i32_w];rfl
                   refine pure_ (i := 20) (N := some 56) (v := ?_) (a' := ?_) #[B1,B1,B1,B1,B1,B1,B1,B1,B1,B1,B0,B0,B0,B1,B1,B1,B1,B1,B1,B1,B1,B0,B0,B0,B0,B0] rfl rfl (any_of HT_.out (by kernel_rfl)) (fun _ _ _ h => h) (Or.inl ⟨by rfl, ?_⟩) ?_ ?_
                   rotate_left
                   ·intro w';go_simp;with_reducible rfl
                   rotate_left
                   ·simp only [Act.put, List.setIfInBounds_toArray, List.set_cons_zero, List.set_cons_succ, i64_w, i32_w];rfl
                   refine take_ (i := 21) (N := some 57) (v := ?_) (a' := ?_) #[B1,B1,B1,B1,B1,B1,B1,B1,B1,B1,B0,B0,B0,B1,B1,B1,B1,B1,B1,B1,B1,B1,B0,B0,B0,B0] rfl rfl (take_ofW HT_.out HW_.out (by kernel_rfl)) (fun _ _ _ h => h) (Or.inl ⟨by rfl, ?_⟩) hHeld ?_ ?_
                   rotate_left
                   ·rintro w' ⟨s0, s1, s2, s3, s4, s5, s6, s7⟩
                    go_simp;with_reducible rfl
                   rotate_left
                   ·simp only [Act.put, List.setIfInBounds_toArray, List.set_cons_zero, List.set_cons_succ, i64_w, i32_w];rfl
                   refine one_ (i := 10) (N := some 46) #[B1,B1,B1,B1,B1,B1,B1,B1,B1,B1,B1,B0,B0,B1,B1,B1,B1,B1,B1,B1,B1,B1,B0,B0,B0,B0] rfl rfl (one_of HT_.out (by kernel_rfl)) (by decide) (fun K hK => ?_)
                   refine goes_ Tryd.func27 (by kernel_rfl) rfl #[.int .i64 ((rd_T41 (rd_L3 l0_1 x5_1) x6_2).f0)] (by rfl) rfl rfl (by (try simp only [List.map_toArray, List.map_cons, List.map_nil]); first | done | rfl | (simp only [List.length_drop, List.length_take]; rfl)) ?_
                   with_reducible refine (selfstabref02_Decimal.calls k2 ((rd_T41 (rd_L3 l0_1 x5_1) x6_2).f0) t294 _ A19.out).mono ?_
                   rintro e w27 ⟨rfl, hb⟩
                   refine ⟨_, rfl, ?_⟩
                   have n0_ := Aside0.mk (blk_below (g := gb287) (o := .cells #[.slice (some ad289) l0_0.length c0_0, .slice (some ad291) l0_1.length c0_1] 26 (0, 0)) (by (with_reducible repeat (first | refine blk_drewN ?_ _ | refine blk_drew ?_ | refine blk_alloc ?_ _)); exact BK287.out) hb)
                   have n1_ := Aside0.mk (below_step (by repeat (first | (with_reducible first | exact HB.out | apply below_alloc | apply pw_below_drewN | apply below_drew1 | refine below_set ?_ GE287.out) | exact HB.out)) hb)
                   clear BK287;clear HB;have BK287 := n0_
                   have HB := n1_
                   clear n0_ n1_;(try clear hb)
                   (try clear hb2)
                   (try clear hk)
                   (try clear hi)
                   refine hK.out _ _ ⟨(blk_cell BK287.out 0).trans rfl, (blk_cell BK287.out 1).trans rfl, ((HB.out.cell (World.block_lt_of_cell? w _ hw292_0)).trans hw292_0), ((HB.out.cell (World.block_lt_of_cell? w _ hw293_0)).trans hw293_0), ((HB.out.cell (World.block_lt_of_cell? w _ hw293_1)).trans hw293_1), ((HB.out.cell (World.block_lt_of_cell? w _ hw295_0)).trans hw295_0), ((HB.out.cell (World.block_lt_of_cell? w _ hw296_0)).trans hw296_0), ((HB.out.cell (World.block_lt_of_cell? w _ hw296_1)).trans hw296_1)⟩ (fun hHeld => ?_)
                   clear hK K;refine norm_ (a' := ?_) ?_ ?_
                   rotate_left
                   ·show Act.put _ (some 46) _ = _
                    simp only [Act.put, List.setIfInBounds_toArray, List.set_cons_zero, List.set_cons_succ, i64_w, i32_w];rfl
                   refine pure_ (i := 11) (N := some 47) (v := ?_) (a' := ?_) #[B1,B1,B1,B1,B1,B1,B1,B1,B1,B1,B1,B1,B0,B1,B1,B1,B1,B1,B1,B1,B1,B1,B0,B0,B0,B0] rfl rfl (any_of HT_.out (by kernel_rfl)) (fun _ _ _ h => h) (Or.inl ⟨by rfl, ?_⟩) ?_ ?_
                   rotate_left
                   ·intro w';go_simp;with_reducible rfl
                   rotate_left
                   ·simp only [Act.put, List.setIfInBounds_toArray, List.set_cons_zero, List.set_cons_succ, i64_w, i32_w];rfl
                   refine pure_ (i := 12) (N := some 48) (v := ?_) (a' := ?_) #[B1,B1,B1,B1,B1,B1,B1,B1,B1,B1,B1,B1,B1,B1,B1,B1,B1,B1,B1,B1,B1,B1,B0,B0,B0,B0] rfl rfl (any_of HT_.out (by kernel_rfl)) (fun _ _ _ h => h) (Or.inl ⟨by rfl, ?_⟩) ?_ ?_
                   rotate_left
                   ·intro w';go_simp;with_reducible rfl
                   rotate_left
                   ·simp only [Act.put, List.setIfInBounds_toArray, List.set_cons_zero, List.set_cons_succ, i64_w, i32_w];rfl
                   refine one_ (i := 22) (N := some 58) #[B1,B1,B1,B1,B1,B1,B1,B1,B1,B1,B1,B1,B1,B1,B1,B1,B1,B1,B1,B1,B1,B1,B1,B0,B0,B0] rfl rfl (one_of HT_.out (by kernel_rfl)) (by decide) (fun K hK => ?_)
                   refine goes_ Tryd.func27 (by kernel_rfl) rfl #[.int .i64 ((rd_T41 (rd_L3 l0_1 x5_1) x6_2).f1)] (by rfl) rfl rfl (by (try simp only [List.map_toArray, List.map_cons, List.map_nil]); first | done | rfl | (simp only [List.length_drop, List.length_take]; rfl)) ?_
                   with_reducible refine (selfstabref02_Decimal.calls k2 ((rd_T41 (rd_L3 l0_1 x5_1) x6_2).f1) t297 _ A22.out).mono ?_
                   rintro e w28 ⟨rfl, hb⟩
                   refine ⟨_, rfl, ?_⟩
                   have n0_ := Aside0.mk (blk_below (g := gb287) (o := .cells #[.slice (some ad289) l0_0.length c0_0, .slice (some ad291) l0_1.length c0_1] 26 (0, 0)) (by (with_reducible repeat (first | refine blk_drewN ?_ _ | refine blk_drew ?_ | refine blk_alloc ?_ _)); exact BK287.out) hb)
                   have n1_ := Aside0.mk (below_step (by repeat (first | (with_reducible first | exact HB.out | apply below_alloc | apply pw_below_drewN | apply below_drew1 | refine below_set ?_ GE287.out) | exact HB.out)) hb)
                   clear BK287;clear HB;have BK287 := n0_
                   have HB := n1_
                   clear n0_ n1_;(try clear hb)
                   (try clear hb2)
                   (try clear hk)
                   (try clear hi)
                   refine hK.out _ _ ⟨(blk_cell BK287.out 0).trans rfl, (blk_cell BK287.out 1).trans rfl, ((HB.out.cell (World.block_lt_of_cell? w _ hw292_0)).trans hw292_0), ((HB.out.cell (World.block_lt_of_cell? w _ hw293_0)).trans hw293_0), ((HB.out.cell (World.block_lt_of_cell? w _ hw293_1)).trans hw293_1), ((HB.out.cell (World.block_lt_of_cell? w _ hw295_0)).trans hw295_0), ((HB.out.cell (World.block_lt_of_cell? w _ hw296_0)).trans hw296_0), ((HB.out.cell (World.block_lt_of_cell? w _ hw296_1)).trans hw296_1)⟩ (fun hHeld => ?_)
                   clear hK K;refine norm_ (a' := ?_) ?_ ?_
                   rotate_left
                   ·show Act.put _ (some 58) _ = _
                    simp only [Act.put, List.setIfInBounds_toArray, List.set_cons_zero, List.set_cons_succ, i64_w, i32_w];rfl
                   refine pure_ (i := 23) (N := some 59) (v := ?_) (a' := ?_) #[B1,B1,B1,B1,B1,B1,B1,B1,B1,B1,B1,B1,B1,B1,B1,B1,B1,B1,B1,B1,B1,B1,B1,B1,B0,B0] rfl rfl (any_of HT_.out (by kernel_rfl)) (fun _ _ _ h => h) (Or.inl ⟨by rfl, ?_⟩) ?_ ?_
                   rotate_left
                   ·intro w';go_simp;with_reducible rfl
                   rotate_left
                   ·simp only [Act.put, List.setIfInBounds_toArray, List.set_cons_zero, List.set_cons_succ, i64_w, i32_w];rfl
                   refine pure_ (i := 24) (N := some 60) (v := ?_) (a' := ?_) #[B1,B1,B1,B1,B1,B1,B1,B1,B1,B1,B1,B1,B1,B1,B1,B1,B1,B1,B1,B1,B1,B1,B1,B1,B1,B0] rfl rfl (any_of HT_.out (by kernel_rfl)) (fun _ _ _ h => h) (Or.inl ⟨by rfl, ?_⟩) ?_ ?_
                   rotate_left
                   ·intro w'
                    have c24z : (9223372036854775807 < x4_2.size + (1 + t294.size + 1 + t297.size)) = False := by
                     have h := c24b2
                     have e : ((((⟨#[32]⟩ : ByteArray) ++ t294) ++ (⟨#[47]⟩ : ByteArray)) ++ t297).size = 1 + t294.size + 1 + t297.size := by simp only [ByteArray.size_append]; rfl
                     rw [e] at h; exact h
                    go_simp;with_reducible rfl
                   rotate_left
                   ·simp only [Act.put, List.setIfInBounds_toArray, List.set_cons_zero, List.set_cons_succ, i64_w, i32_w];rfl
                   refine pure_ (i := 25) (N := some 4) (v := ?_) (a' := ?_) #[B1,B1,B1,B1,B1,B1,B1,B1,B1,B1,B1,B1,B1,B1,B1,B1,B1,B1,B1,B1,B1,B1,B1,B1,B1,B1] rfl rfl (any_of HT_.out (by kernel_rfl)) (fun _ _ _ h => h) (Or.inl ⟨by rfl, ?_⟩) ?_ ?_
                   rotate_left
                   ·intro w';go_simp;with_reducible rfl
                   rotate_left
                   ·simp only [Act.put, List.setIfInBounds_toArray, List.set_cons_zero, List.set_cons_succ, i64_w, i32_w];rfl
                   refine done_ (done_of HT_.out (by kernel_rfl)) ?_
                   try go_wp2
                   go_roundg k2
                   case measure => have := HK1.out; have := HK2.out; omega
                   case rel => exact ⟨(x4_2 ++ ((((⟨#[32]⟩ : ByteArray) ++ t294) ++ (⟨#[47]⟩ : ByteArray)) ++ t297)), (wrap64 (x6_2 + 1)), (by first | rfl | (simp; done) | (simp [*]; done)), (by first | rfl | (simp; done) | (simp [*]; done)), H', ⟨by have := HK1.out; have := HK2.out; omega⟩, ⟨by (with_reducible repeat (first | refine blk_drewN ?_ _ | refine blk_drew ?_ | refine blk_alloc ?_ _)); exact BK287.out⟩, ⟨by repeat (first | (with_reducible first | exact HB.out | apply below_alloc | apply pw_below_drewN | apply below_drew1 | refine below_set ?_ GE287.out) | exact HB.out)⟩⟩
                  ·rw [if_neg c24] at H
                   exact absurd H (by simp)
                 ·rw [if_neg c23] at H
                  exact absurd H (by simp)
                ·rw [if_neg c21] at H
                 exact absurd H (by simp)
               ·rw [if_neg c20] at H
                exact absurd H (by simp)
              ·rw [if_neg c18] at H
               exact absurd H (by simp)
             ·rw [if_neg c17] at H
              have c17b0 : decide (x6_2 < ((rd_L3 l0_1 x5_1).length : Int)) = false := decide_eq_false c17
              clear c17;by_cases c29 : x4_2.size + 1 ≤ 9223372036854775807
              ·rw [if_pos c29] at H
               have c29b0 := eq_true c29
               have c29b1 : decide (x4_2.size + 1 ≤ 9223372036854775807) = true := decide_eq_true c29
               try have c29b2 : (9223372036854775807 < x4_2.size + 1) = False := eq_false (Nat.not_lt.2 c29)
               have H' := Aside0.mk H
               clear H;have hcz30_0 : wr.cell? ⟨gb287, 0, none⟩ = some (.slice (some ad289) l0_0.length c0_0) := (blk_cell BK287.out 0).trans rfl
               have hcz30_1 : wr.cell? ⟨gb287, 1, none⟩ = some (.slice A0_1 l0_1.length c0_1) := (blk_cell BK287.out 1).trans rfl
               have hfz30_0 := blk_frozen BK287.out 0
               have hfz30_1 := blk_frozen BK287.out 1
               have p291 : 0 ≤ (x5_1 : Int) := of_decide_eq_true (by first | (with_reducible assumption) | assumption)
               have q291 : x5_1 < (l0_1.length : Int) := of_decide_eq_true (by first | (with_reducible assumption) | assumption)
               obtain ⟨ad291, A291_0, c291_0, e291, hx291_0, hl291_0, hi291_0⟩ := at_L3 HR0_1.out x5_1 p291 q291
               cases e291;replace hx291_0 := (HB.out.cell (World.block_lt_of_cell? w _ hx291_0)).trans hx291_0
               have HR291_0 := Aside0.mk hi291_0
               have HC291_0 := Aside0.mk hl291_0
               clear hi291_0 hl291_0;replace p291 := eq_true p291;replace q291 := eq_true q291;go_wp2
               go_roundg k2
               case measure => have := HK1.out; have := HK2.out; omega
               case rel => exact ⟨(x4_2 ++ (⟨#[10]⟩ : ByteArray)), (wrap64 (x5_1 + 1)), (by first | rfl | (simp; done) | (simp [*]; done)), (by first | rfl | (simp; done) | (simp [*]; done)), H', ⟨by have := HK1.out; have := HK2.out; omega⟩, ⟨by (with_reducible repeat (first | refine blk_drewN ?_ _ | refine blk_drew ?_ | refine blk_alloc ?_ _)); exact BK287.out⟩, ⟨by repeat (first | (with_reducible first | exact HB.out | apply below_alloc | apply pw_below_drewN | apply below_drew1 | refine below_set ?_ GE287.out) | exact HB.out)⟩⟩
              ·rw [if_neg c29] at H
               exact absurd H (by simp)
            ·rw [if_neg c16] at H
             exact absurd H (by simp)
           ·rw [if_neg c15] at H
            exact absurd H (by simp)
        ·rw [if_neg c12] at H
         exact absurd H (by simp)
       ·rw [if_neg c11] at H
        exact absurd H (by simp)
      ·rw [if_neg c9] at H
       exact absurd H (by simp)
     ·rw [if_neg c8] at H
      exact absurd H (by simp)
    ·rw [if_neg c7] at H
     have c7b0 : decide (x5_1 < (l0_1.length : Int)) = false := decide_eq_false c7
     clear c7;simp only [Option.some.injEq, Prod.mk.injEq] at H
     obtain ⟨rfl, rfl⟩ := H
     have hcz31_0 : wr.cell? ⟨gb287, 0, none⟩ = some (.slice A0_0 l0_0.length c0_0) := (blk_cell BK287.out 0).trans rfl
     have hcz31_1 : wr.cell? ⟨gb287, 1, none⟩ = some (.slice A0_1 l0_1.length c0_1) := (blk_cell BK287.out 1).trans rfl
     have hfz31_0 := blk_frozen BK287.out 0
     have hfz31_1 := blk_frozen BK287.out 1
     go_wp2
     go_ret2
     exact ⟨by first | rfl | (simp [errW_none, errW_some] <;> rfl) | (simp [*, errW_none, errW_some] <;> rfl), by repeat (first | (with_reducible first | exact HB.out | apply below_alloc | apply pw_below_drewN | apply below_drew1 | refine below_set ?_ GE287.out) | exact HB.out)⟩
 ·replace c3 := Bool.eq_false_iff.mpr c3
  subst c3;have H1 : (some ((⟨#[]⟩ : ByteArray), 1)) = some (r1, r2) := by rw [if_neg (show ¬ (false = true) by decide)] at H; exact H
  clear H;have H := H1
  clear H1;simp only [Option.some.injEq, Prod.mk.injEq] at H
  obtain ⟨rfl, rfl⟩ := H
  go_enter Tryd.func15, Tryd.ntmps15
  go_wp2_with (first | ((with_reducible refine gate_dst (N := 1) rfl ?_); refine box_event ?hg (N := 1) ?hd (cs := #[.slice A0_0 l0_0.length c0_0, .slice A0_1 l0_1.length c0_1]) (t := 26) ?hr ?_; (case hd => rfl); (case hg => rfl); (case hr => first | (go_simp; done) | (go_simp; rfl)); intro gb287 hg w32 hbox hb; have n0_ := Aside0.mk (below_step (by repeat (first | (with_reducible first | exact HB.out | apply below_alloc | apply pw_below_drewN | apply below_drew1) | exact HB.out)) hb); have n1_ := Aside0.mk (hbox); have n2_ := Aside0.mk ((by rw [hg]; exact (below_size (by repeat (first | (with_reducible first | exact HB.out | apply below_alloc | apply pw_below_drewN | apply below_drew1) | exact HB.out))) : w.heap.size ≤ gb287)); have n3_ := Aside0.mk ((by rw [hg]; exact (below_size (by repeat (first | (with_reducible first | exact HB.out | apply below_alloc | apply pw_below_drewN | apply below_drew1) | exact HB.out))) : w.heap.size ≤ gb287)); clear HB; have HB := n0_; have BK287 := n1_; have GW287 := n2_; have GE287 := n3_; clear n0_ n1_ n2_ n3_; clear hb hbox hg; have hcz33_0 : w32.cell? ⟨gb287, 0, none⟩ = some (.slice A0_0 l0_0.length c0_0) := (blk_cell BK287.out 0).trans rfl; have hcz33_1 : w32.cell? ⟨gb287, 1, none⟩ = some (.slice A0_1 l0_1.length c0_1) := (blk_cell BK287.out 1).trans rfl; have hfz33_0 := blk_frozen BK287.out 0; have hfz33_1 := blk_frozen BK287.out 1) | ((with_reducible refine gate_callee (f := 14) rfl ?_); refine goesL_ (some 8) rfl rfl Tryd.func14 (by kernel_rfl) rfl #[.agg #[.slice A0_0 l0_0.length c0_0, .slice A0_1 l0_1.length c0_1]] rfl (by (try simp only [List.map_toArray, List.map_cons, List.map_nil]); first | done | rfl | (simp only [List.length_drop, List.length_take]; rfl)) ?_; (with_reducible refine (selfstabref01_Valid.calls k _ _ l0_0 _ _ l0_1 false _ ?side1 ?side2 ?side3 ?side4 A2.out).mono ?_); (case side1 => repeat (first | exact (Kd.C_below HR0_0.out HB.out) | (with_reducible refine Kd.C_alloc ?_ _) | (with_reducible refine Kd.C_drewN ?_ _) | (with_reducible refine Kd.C_drew ?_))); (case side2 => exact HC0_0.out); (case side3 => repeat (first | exact (Kd.C_below HR0_1.out HB.out) | (with_reducible refine Kd.C_alloc ?_ _) | (with_reducible refine Kd.C_drewN ?_ _) | (with_reducible refine Kd.C_drew ?_))); (case side4 => exact HC0_1.out); rintro e w34 ⟨rfl, hb⟩; refine ⟨_, rfl, ?_⟩; have n0_ := Aside0.mk (blk_below (g := gb287) (o := .cells #[.slice A0_0 l0_0.length c0_0, .slice A0_1 l0_1.length c0_1] 26 (0, 0)) (by (with_reducible repeat (first | refine blk_drewN ?_ _ | refine blk_drew ?_ | refine blk_alloc ?_ _)); exact BK287.out) hb); have n1_ := Aside0.mk (below_step (by repeat (first | (with_reducible first | exact HB.out | apply below_alloc | apply pw_below_drewN | apply below_drew1 | refine below_set ?_ GE287.out) | exact HB.out)) hb); clear BK287; clear HB; have BK287 := n0_; have HB := n1_; clear n0_ n1_; (try clear hb); (try clear hb2); (try clear hk); (try clear hi)))
  go_ret2
  exact ⟨by first | rfl | (simp [errW_none, errW_some] <;> rfl) | (simp [*, errW_none, errW_some] <;> rfl), by repeat (first | (with_reducible first | exact HB.out | apply below_alloc | apply pw_below_drewN | apply below_drew1 | refine below_set ?_ GE287.out) | exact HB.out)⟩
def selfstabmade_Mod.f (a0 : Int) (a1 : Int) : Option (Int) := if a1 = 0 then (none) else (if (Int.tmod a0 a1) < 0 then (some (wrap64 ((Int.tmod a0 a1) + a1))) else (some (Int.tmod a0 a1)))
set_option maxHeartbeats 6000000 in
set_option maxRecDepth 100000 in
theorem selfstabmade_Mod.calls (a0 : Int) (a1 : Int) (r : Int) (w : World) (h : selfstabmade_Mod.f a0 a1 = some r) :
  Calls Tryd.prog 17 #[.int .i64 a0, .int .i64 a1] w fun e w' => e = .returned (.int .i64 r) ∧ Drawn0 w w' := by
 have H : (if a1 = 0 then (none) else (if (Int.tmod a0 a1) < 0 then (some (wrap64 ((Int.tmod a0 a1) + a1))) else (some (Int.tmod a0 a1)))) = some r := h
 clear h;by_cases c3 : a1 = 0
 ·rw [if_pos c3] at H
  exact absurd H (by simp)
 ·rw [if_neg c3] at H
  have c3b0 : (a1 == 0) = false := beq_eq_false_iff_ne.mpr c3
  have c3b1 : (a1 != 0) = true := bne_iff_ne.mpr c3
  by_cases c4 : (Int.tmod a0 a1) < 0
  ·rw [if_pos c4] at H
   have c4b0 : decide ((Int.tmod a0 a1) < 0) = true := decide_eq_true c4
   clear c4;obtain rfl := Option.some.inj H
   go_enter Tryd.func17, Tryd.ntmps17
   go_wp2
   go_ret
   exact ⟨by first | rfl | (simp; done) | (simp [*]; done), by repeat (first | exact Drawn0.refl _ | apply Drawn0.step)⟩
  ·rw [if_neg c4] at H
   have c4b0 : decide ((Int.tmod a0 a1) < 0) = false := decide_eq_false c4
   clear c4;obtain rfl := Option.some.inj H
   go_enter Tryd.func17, Tryd.ntmps17
   go_wp2
   go_ret
   exact ⟨by first | rfl | (simp; done) | (simp [*]; done), by repeat (first | exact Drawn0.refl _ | apply Drawn0.step)⟩
end Go.Proofs.YtinfejpkjddbiaaDoor.P
