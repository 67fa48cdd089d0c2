/- Part of the proof of the law GraphtextFormats: P8. -/
import Derived.Test.YtinfejpkjddbiaaDoorGraphtextFormatsP0
import Derived.Test.YtinfejpkjddbiaaDoorGraphtextFormatsP7
import Derived.Test.YtinfejpkjddbiaaDoorGraphtextFormatsPk
namespace Go.Proofs.YtinfejpkjddbiaaDoor.P
open Go.Proofs.YtinfejpkjddbiaaDoor.Pk
open Go.RowKit Go.Proofs.YtinfejpkjddbiaaDoorW.PrintWords Go.Proofs.YtinfejpkjddbiaaDoorW.PrintLast Go.Proofs.YtinfejpkjddbiaaDoorW.PrintMore
attribute [local go_sem] max2_int min2_int max_two min_two max_three min_three max_four min_four
set_option linter.unusedVariables false
set_option linter.unusedSimpArgs false
def selfstabref02_Decimal.l0 : Nat → Int → ByteArray → Option (ByteArray)
 | 0, _, _ => none
 | k + 1, x0, x3 => if x0 ≥ 10 then ((some (([(wrap64 (48 + (Int.tmod (wrap64 (Int.tdiv x0 10)) 10))) % 256] : List Int) : List Int)).bind fun y195 => (if (strOfNums y195).size + x3.size ≤ 9223372036854775807 then (selfstabref02_Decimal.l0 k (wrap64 (Int.tdiv x0 10)) ((strOfNums y195) ++ x3)) else (none))) else (some x3)
def selfstabref02_Decimal.f (k : Nat) (a0 : Int) : Option (ByteArray) := selfstabref02_Decimal.l0 k (mx a0 0) (strOfNums (([48 + ((mx a0 0) % 10)] : List Int)))
theorem selfstabref02_Decimal.mono_l : ∀ k, (∀ y0 y1, LeO (selfstabref02_Decimal.l0 k y0 y1) (selfstabref02_Decimal.l0 (k + 1) y0 y1))
 | 0 => fun _ _ r h => by simp [selfstabref02_Decimal.l0] at h
 | k + 1 => by
  have ih0 := selfstabref02_Decimal.mono_l k
  ·intro y0 y1;unfold selfstabref02_Decimal.l0
   repeat' first
   | (with_reducible exact ih0 _ _)
   | (with_reducible exact LeO.refl _)
   | (with_reducible exact LeO.none _)
   | (with_reducible refine LeO.ite ?_ ?_)
   | (with_reducible refine LeO.bind ?_ (fun _ => ?_))
   | exact ih0 _ _
   | exact LeO.none _
   | refine LeO.ite ?_ ?_
   | refine LeO.bind ?_ (fun _ => ?_)
theorem selfstabref02_Decimal.mono : ∀ a0 k, LeO (selfstabref02_Decimal.f k a0) (selfstabref02_Decimal.f (k + 1) a0) := by
 intro a0 k;have ih0 := selfstabref02_Decimal.mono_l k
 unfold selfstabref02_Decimal.f
 repeat' first
   | (with_reducible exact ih0 _ _)
   | (with_reducible exact LeO.refl _)
   | (with_reducible exact LeO.none _)
   | (with_reducible refine LeO.ite ?_ ?_)
   | (with_reducible refine LeO.bind ?_ (fun _ => ?_))
   | exact ih0 _ _
   | exact LeO.none _
   | refine LeO.ite ?_ ?_
   | refine LeO.bind ?_ (fun _ => ?_)
set_option maxHeartbeats 6000000 in
set_option maxRecDepth 100000 in
theorem selfstabref02_Decimal.calls (k : Nat) (a0 : Int) (r : ByteArray) (w : World) (h : selfstabref02_Decimal.f k a0 = some r) :
  Calls Tryd.prog 27 #[.int .i64 a0] w fun e w' => e = .returned (.string r) ∧ Below w.heap.size w w' := by
 have HB := Aside0.mk (Below.refl w.heap.size w)
 have H : (selfstabref02_Decimal.l0 k (mx a0 0) (strOfNums (([48 + ((mx a0 0) % 10)] : List Int)))) = some r := h
 clear h;obtain ⟨ji2, hji2⟩ : ∃ j_ : Int, (mx a0 0) = j_ := ⟨_, rfl⟩
 replace H : (selfstabref02_Decimal.l0 k ji2 (strOfNums (([48 + ((ji2) % 10)] : List Int)))) = some r := by first | (rw [hji2] at H; exact H) | (simp only [hji2] at H ⊢; exact H)
 (try (have hji2l : 0 ≤ ji2 := by (rw [← hji2]; unfold mx; (repeat' split) <;> omega)))
 (try (have hji2m : 0 ≤ ji2 := by omega))
 have hji2_ : (if a0 < 0 then 0 else a0) = ji2 := hji2
 obtain ⟨y192, hy192⟩ : ∃ y_ : List Int, y_ = (([48 + ((ji2) % 10)] : List Int)) := ⟨_, rfl⟩
 replace H : (selfstabref02_Decimal.l0 k ji2 (strOfNums y192)) = some r := by first | (rw [hy192]; with_reducible exact H) | (have H2_ := (Option.bind_some _ _).symm.trans H; rw [hy192]; with_reducible exact H2_) | (have H2_ := (Option.bind_some _ _).symm.trans H; with_reducible exact H2_) | with_reducible exact H | (rw [hy192]; exact H) | exact H
 have Ny192 := Aside0.mk hy192
 clear hy192;have H' := Aside0.mk H
 clear H;go_enter Tryd.func27, Tryd.ntmps27
 go_wp2_with (first | ((with_reducible refine gate_dst (N := 10) rfl ?_); refine Kd.R_lit (Kd.int .u8) _ 5 ?hg (N := 10) ?hd (xs := ([48 + ((ji2) % 10)] : List Int)) (inner := [.int .u8 (48 + ((ji2) % 10))]) (ok := fun _ => True) (okp := fun _ => True) ?hr ?hp (fun _ hk => hk) trivial (Below.refl _ _) (Nat.le_refl _) (by simp) ?_; (case hd => rfl); (case hg => rfl); (case hr => first | (go_simp; done) | (go_simp; rfl)); (case hp => exact (Reps.one (show Kd.M (Kd.int .u8) _ _ _ (48 + ((ji2) % 10)) [.int .u8 (48 + ((ji2) % 10))] from rfl) (Reps.none _ _))); intro v193 w3 ho4 hb hg_ hnew_; clear hg_ hnew_; (first | rw [← Ny192.out] at ho4 | (simp only [Int.reduceToNat] at ho4; rw [← Ny192.out] at ho4)); have n0_ := Aside0.mk (Kd.R_lower ho4 (below_size (by repeat (first | (with_reducible first | exact HB.out | apply below_alloc | apply pw_below_drewN | apply below_drew1) | exact HB.out)))); have n1_ := Aside0.mk (below_step (by repeat (first | (with_reducible first | exact HB.out | apply below_alloc | apply pw_below_drewN | apply below_drew1) | exact HB.out)) hb); clear HB; have HO194 := n0_; have HB := n1_; clear n0_ n1_; clear hb ho4; have hcv5 := own_string (P := Tryd.prog) Tryd.underlying52 Tryd.underlying5 Tryd.underlying9 (Kd.own_of_R HO194.out)))
 go_loopg [0, 3] k (fun kq v0 v3 w' => ∃ (x0_1 : Int) (x3_1 : ByteArray), v0 = .int .i64 x0_1 ∧ v3 = .string x3_1 ∧ Aside0 (selfstabref02_Decimal.l0 kq x0_1 x3_1 = some r) ∧ Aside0 (kq ≤ k) ∧ Aside0 (Below w.heap.size w w'))
 case atStart => exact ⟨(ji2), (strOfNums y192), (by first | rfl | (simp; done) | (simp only [← hji2] <;> (first | rfl | simp)) | (simp [*]; done)), (by first | rfl | (simp; done) | (simp [*]; done)), H', ⟨Nat.le_refl _⟩, ⟨by repeat (first | (with_reducible first | exact HB.out | apply below_alloc | apply pw_below_drewN | apply below_drew1) | exact HB.out)⟩⟩
 case round =>
  clear H';try clear hcv5
  obtain ⟨x0_1, x3_1, rfl, rfl, HA, HK1, HB⟩ := hrel
  cases gk with
  | zero => exact absurd HA.out (by simp [selfstabref02_Decimal.l0])
  | succ k1 =>
   have H := HA.out
   clear HA;simp only [selfstabref02_Decimal.l0] at H
   by_cases c6 : x0_1 ≥ 10
   ·rw [if_pos c6] at H
    have c6b0 : decide (10 ≤ x0_1) = true := decide_eq_true c6
    clear c6;obtain ⟨y195, hy195⟩ : ∃ y_ : List Int, y_ = (([(wrap64 (48 + (Int.tmod (wrap64 (Int.tdiv x0_1 10)) 10))) % 256] : List Int)) := ⟨_, rfl⟩
    replace H : (if (strOfNums y195).size + x3_1.size ≤ 9223372036854775807 then (selfstabref02_Decimal.l0 k1 (wrap64 (Int.tdiv x0_1 10)) ((strOfNums y195) ++ x3_1)) else (none)) = some r := by first | (rw [hy195]; with_reducible exact H) | (have H2_ := (Option.bind_some _ _).symm.trans H; rw [hy195]; with_reducible exact H2_) | (have H2_ := (Option.bind_some _ _).symm.trans H; with_reducible exact H2_) | with_reducible exact H | (rw [hy195]; exact H) | exact H
    have Ny195 := Aside0.mk hy195
    clear hy195;by_cases c7 : (strOfNums y195).size + x3_1.size ≤ 9223372036854775807
    ·rw [if_pos c7] at H
     have c7b0 := eq_true c7
     have c7b1 : decide ((strOfNums y195).size + x3_1.size ≤ 9223372036854775807) = true := decide_eq_true c7
     try have c7b2 : (9223372036854775807 < (strOfNums y195).size + x3_1.size) = False := eq_false (Nat.not_lt.2 c7)
     have H' := Aside0.mk H
     clear H
     go_wp2_with (first | ((with_reducible refine gate_dst (N := 20) rfl ?_); refine Kd.R_lit (Kd.int .u8) _ 5 ?hg (N := 20) ?hd (xs := ([(wrap64 (48 + (Int.tmod (wrap64 (Int.tdiv x0_1 10)) 10))) % 256] : List Int)) (inner := [.int .u8 ((wrap64 (48 + (Int.tmod (wrap64 (Int.tdiv x0_1 10)) 10))) % 256)]) (ok := fun _ => True) (okp := fun _ => True) ?hr ?hp (fun _ hk => hk) trivial (Below.refl _ _) (Nat.le_refl _) (by simp) ?_; (case hd => rfl); (case hg => rfl); (case hr => first | (go_simp; done) | (go_simp; rfl)); (case hp => exact (Reps.one (show Kd.M (Kd.int .u8) _ _ _ ((wrap64 (48 + (Int.tmod (wrap64 (Int.tdiv x0_1 10)) 10))) % 256) [.int .u8 ((wrap64 (48 + (Int.tmod (wrap64 (Int.tdiv x0_1 10)) 10))) % 256)] from rfl) (Reps.none _ _))); intro v196 w8 ho9 hb hg_ hnew_; clear hg_ hnew_; (first | rw [← Ny195.out] at ho9 | (simp only [Int.reduceToNat] at ho9; rw [← Ny195.out] at ho9)); have n0_ := Aside0.mk (Kd.R_lower ho9 (below_size (by repeat (first | (with_reducible first | exact HB.out | apply below_alloc | apply pw_below_drewN | apply below_drew1) | exact HB.out)))); have n1_ := Aside0.mk (below_step (by repeat (first | (with_reducible first | exact HB.out | apply below_alloc | apply pw_below_drewN | apply below_drew1) | exact HB.out)) hb); clear HB; have HO197 := n0_; have HB := n1_; clear n0_ n1_; clear hb ho9; have hcv10 := own_string (P := Tryd.prog) Tryd.underlying52 Tryd.underlying5 Tryd.underlying9 (Kd.own_of_R HO197.out)))
     go_roundg k1
     case measure => have := HK1.out; omega
     case rel => exact ⟨(wrap64 (Int.tdiv x0_1 10)), ((strOfNums y195) ++ x3_1), (by first | rfl | (simp; done) | (simp [*]; done)), (by first | rfl | (simp; done) | (simp [*]; done)), H', ⟨by have := HK1.out; omega⟩, ⟨by repeat (first | (with_reducible first | exact HB.out | apply below_alloc | apply pw_below_drewN | apply below_drew1) | exact HB.out)⟩⟩
    ·rw [if_neg c7] at H
     exact absurd H (by simp)
   ·rw [if_neg c6] at H
    have c6b0 : decide (10 ≤ x0_1) = false := decide_eq_false c6
    clear c6;obtain rfl := Option.some.inj H
    go_wp2
    go_ret
    exact ⟨by first | rfl | (simp [errW_none, errW_some] <;> rfl) | (simp only [← hji2]; first | rfl | (simp [errW_none, errW_some] <;> rfl)) | (simp [*, errW_none, errW_some] <;> rfl), by repeat (first | (with_reducible first | exact HB.out | apply below_alloc | apply pw_below_drewN | apply below_drew1) | exact HB.out)⟩
mutual
def selfstabref02_Format.l0 : Nat → ByteArray → Int → List Int → List (List (S41)) → Option (ByteArray × Int)
 | 0, _, _, _, _ => none
 | k + 1, x4, x5, x199000, x199001 => if x5 < (x199001.length : Int) then (if 0 ≤ x5 then (if x5 < (x199000.length : Int) then ((selfstabref02_Decimal.f k (rd x199000 x5)).bind fun t201 => (if 5 + t201.size ≤ 9223372036854775807 then (if x4.size + ((⟨#[110, 111, 100, 101, 32]⟩ : ByteArray) ++ t201).size ≤ 9223372036854775807 then (selfstabref02_Format.l1 k (x4 ++ ((⟨#[110, 111, 100, 101, 32]⟩ : ByteArray) ++ t201)) x5 0 x199000 x199001) else (none)) else (none))) else (none)) else (none)) else (some (x4, 0))
def selfstabref02_Format.l1 : Nat → ByteArray → Int → Int → List Int → List (List (S41)) → Option (ByteArray × Int)
 | 0, _, _, _, _, _ => none
 | k + 1, x4, x5, x6, x199000, x199001 => if 0 ≤ x5 then (if x5 < (x199001.length : Int) then (if x6 < ((rd_L3 x199001 x5).length : Int) then (if 0 ≤ x6 then ((selfstabref02_Decimal.f k ((rd_T41 (rd_L3 x199001 x5) x6).f0)).bind fun t205 => (if 1 + t205.size ≤ 9223372036854775807 then (if ((⟨#[32]⟩ : ByteArray) ++ t205).size + 1 ≤ 9223372036854775807 then ((selfstabref02_Decimal.f k ((rd_T41 (rd_L3 x199001 x5) x6).f1)).bind fun t208 => (if (((⟨#[32]⟩ : ByteArray) ++ t205) ++ (⟨#[47]⟩ : ByteArray)).size + t208.size ≤ 9223372036854775807 then (if x4.size + ((((⟨#[32]⟩ : ByteArray) ++ t205) ++ (⟨#[47]⟩ : ByteArray)) ++ t208).size ≤ 9223372036854775807 then (selfstabref02_Format.l1 k (x4 ++ ((((⟨#[32]⟩ : ByteArray) ++ t205) ++ (⟨#[47]⟩ : ByteArray)) ++ t208)) x5 (wrap64 (x6 + 1)) x199000 x199001) else (none)) else (none))) else (none)) else (none))) else (none)) else (if x4.size + 1 ≤ 9223372036854775807 then (selfstabref02_Format.l0 k (x4 ++ (⟨#[10]⟩ : ByteArray)) (wrap64 (x5 + 1)) x199000 x199001) else (none))) else (none)) else (none)
end
def selfstabref02_Format.f (k : Nat) (l0_0 : List Int) (l0_1 : List (List (S41))) : Option (ByteArray × Int) := (selfstabref01_Valid.f k l0_0 l0_1).bind fun t199 => (if t199 = true then (selfstabref02_Format.l0 k (⟨#[]⟩ : ByteArray) 0 l0_0 l0_1) else (some ((⟨#[]⟩ : ByteArray), 1)))
def selfstabref02_Format.T11 : Bool × List (List Nat × List Nat) := (true, [([], []), ([], []), ([1], [1]), ([], []), ([2, 3], [2, 3]), ([4], [4]), ([], []), ([5, 6], [5, 6]), ([7], [7]), ([8], [8]), ([9], [9]), ([10], [10]), ([11], [11]), ([], []), ([13], [13]), ([], []), ([14, 15], [14, 15]), ([16], [16]), ([], []), ([17, 18], [17, 18]), ([19], [19]), ([20], [20]), ([21, 10], [21]), ([12, 22], [12, 22]), ([0, 23], [0, 23]), ([24, 22, 0, 1, 2, 3, 4, 5, 6, 7, 8, 9, 10, 11, 12, 13, 14, 15, 16, 17, 18, 19, 20, 21, 22, 23, 24], [0, 24])])
def selfstabref02_Format.B11 : List Nat := [0, 0, 2, 0, 14, 30, 0, 126, 254, 510, 1022, 2046, 4094, 0, 8192, 0, 57344, 122880, 0, 516096, 1040384, 2088960, 4188158, 8388606, 16777215, 33554431]
theorem selfstabref02_Format.tab11 : rtab .any (opsOf Tryd.f15 11) = selfstabref02_Format.T11 := by kernel_rfl
theorem selfstabref02_Format.bits11 : waitsOk selfstabref02_Format.T11.2 selfstabref02_Format.B11 = true := by kernel_rfl
set_option maxHeartbeats 6000000 in
set_option maxRecDepth 100000 in
theorem selfstabref02_Format.calls (k : Nat) (A0_0 : Option Addr) (c0_0 : Nat) (l0_0 : List Int) (A0_1 : Option Addr) (c0_1 : Nat) (l0_1 : List (List (S41))) (r1 : ByteArray) (r2 : Int) (w : World) (hr0_0 : Kd.C (Kd.int .i64) w A0_0 l0_0.length l0_0) (hc0_0 : l0_0.length ≤ c0_0) (hr0_1 : Kd.C (Kd.slice 41 k41) w A0_1 l0_1.length l0_1) (hc0_1 : l0_1.length ≤ c0_1) (h : selfstabref02_Format.f k l0_0 l0_1 = some (r1, r2)) :
  Calls Tryd.prog 15 #[.agg #[.slice A0_0 l0_0.length c0_0, .slice A0_1 l0_1.length c0_1]] w fun e w' => e = .returned (.tuple #[.string r1, .int .i64 r2]) ∧ Below w.heap.size w w' := by
 have hu26 := Tryd.underlying26
 have HR0_0 := Aside0.mk hr0_0
 have HC0_0 := Aside0.mk hc0_0
 clear hr0_0 hc0_0;have HR0_1 := Aside0.mk hr0_1
 have HC0_1 := Aside0.mk hc0_1
 clear hr0_1 hc0_1;have HB := Aside0.mk (Below.refl w.heap.size w)
 have H : ((selfstabref01_Valid.f k l0_0 l0_1).bind fun t199 => (if t199 = true then (selfstabref02_Format.l0 k (⟨#[]⟩ : ByteArray) 0 l0_0 l0_1) else (some ((⟨#[]⟩ : ByteArray), 1)))) = some (r1, r2) := h
 clear h;replace H := Option.bind_eq_some_iff.mp H
 obtain ⟨t199, A20, H⟩ := H
 replace H : (if t199 = true then (selfstabref02_Format.l0 k (⟨#[]⟩ : ByteArray) 0 l0_0 l0_1) else (some ((⟨#[]⟩ : ByteArray), 1))) = some (r1, r2) := H
 have A2 := Aside0.mk A20
 clear A20;by_cases c3 : t199 = true
 ·subst c3;have H1 : (selfstabref02_Format.l0 k (⟨#[]⟩ : ByteArray) 0 l0_0 l0_1) = some (r1, r2) := by rw [if_pos rfl] at H; exact H
  clear H;have H := H1
  clear H1;have H' := Aside0.mk H
  clear H;go_enter Tryd.func15, Tryd.ntmps15
  go_wp2_with (first | ((with_reducible refine gate_dst (N := 1) rfl ?_); refine box_event ?hg (N := 1) ?hd (cs := #[.slice A0_0 l0_0.length c0_0, .slice A0_1 l0_1.length c0_1]) (t := 26) ?hr ?_; (case hd => rfl); (case hg => rfl); (case hr => first | (go_simp; done) | (go_simp; rfl)); intro gb198 hg w4 hbox hb; have n0_ := Aside0.mk (below_step (by repeat (first | (with_reducible first | exact HB.out | apply below_alloc | apply pw_below_drewN | apply below_drew1) | exact HB.out)) hb); have n1_ := Aside0.mk (hbox); have n2_ := Aside0.mk ((by rw [hg]; exact (below_size (by repeat (first | (with_reducible first | exact HB.out | apply below_alloc | apply pw_below_drewN | apply below_drew1) | exact HB.out))) : w.heap.size ≤ gb198)); have n3_ := Aside0.mk ((by rw [hg]; exact (below_size (by repeat (first | (with_reducible first | exact HB.out | apply below_alloc | apply pw_below_drewN | apply below_drew1) | exact HB.out))) : w.heap.size ≤ gb198)); clear HB; have HB := n0_; have BK198 := n1_; have GW198 := n2_; have GE198 := n3_; clear n0_ n1_ n2_ n3_; clear hb hbox hg; have hcz5_0 : w4.cell? ⟨gb198, 0, none⟩ = some (.slice A0_0 l0_0.length c0_0) := (blk_cell BK198.out 0).trans rfl; have hcz5_1 : w4.cell? ⟨gb198, 1, none⟩ = some (.slice A0_1 l0_1.length c0_1) := (blk_cell BK198.out 1).trans rfl; have hfz5_0 := blk_frozen BK198.out 0; have hfz5_1 := blk_frozen BK198.out 1) | ((with_reducible refine gate_callee (f := 14) rfl ?_); refine goesL_ (some 8) rfl rfl Tryd.func14 (by kernel_rfl) rfl #[.agg #[.slice A0_0 l0_0.length c0_0, .slice A0_1 l0_1.length c0_1]] rfl (by (try simp only [List.map_toArray, List.map_cons, List.map_nil]); first | done | rfl | (simp only [List.length_drop, List.length_take]; rfl)) ?_; (with_reducible refine (selfstabref01_Valid.calls k _ _ l0_0 _ _ l0_1 true _ ?side1 ?side2 ?side3 ?side4 A2.out).mono ?_); (case side1 => repeat (first | exact (Kd.C_below HR0_0.out HB.out) | (with_reducible refine Kd.C_alloc ?_ _) | (with_reducible refine Kd.C_drewN ?_ _) | (with_reducible refine Kd.C_drew ?_))); (case side2 => exact HC0_0.out); (case side3 => repeat (first | exact (Kd.C_below HR0_1.out HB.out) | (with_reducible refine Kd.C_alloc ?_ _) | (with_reducible refine Kd.C_drewN ?_ _) | (with_reducible refine Kd.C_drew ?_))); (case side4 => exact HC0_1.out); rintro e w6 ⟨rfl, hb⟩; refine ⟨_, rfl, ?_⟩; have n0_ := Aside0.mk (blk_below (g := gb198) (o := .cells #[.slice A0_0 l0_0.length c0_0, .slice A0_1 l0_1.length c0_1] 26 (0, 0)) (by (with_reducible repeat (first | refine blk_drewN ?_ _ | refine blk_drew ?_ | refine blk_alloc ?_ _)); exact BK198.out) hb); have n1_ := Aside0.mk (below_step (by repeat (first | (with_reducible first | exact HB.out | apply below_alloc | apply pw_below_drewN | apply below_drew1 | refine below_set ?_ GE198.out) | exact HB.out)) hb); clear BK198; clear HB; have BK198 := n0_; have HB := n1_; clear n0_ n1_; (try clear hb); (try clear hb2); (try clear hk); (try clear hi)))
  go_loopg [4, 5] k (fun kq v4 v5 w' => ∃ (x4_1 : ByteArray) (x5_1 : Int), v4 = .string x4_1 ∧ v5 = .int .i64 x5_1 ∧ Aside0 (selfstabref02_Format.l0 kq x4_1 x5_1 l0_0 l0_1 = some (r1, r2)) ∧ Aside0 (kq ≤ k) ∧ Aside0 (w'.heap[gb198]? = some (.cells #[(.slice A0_0 l0_0.length c0_0), (.slice A0_1 l0_1.length c0_1)] 26 (0, 0))) ∧ Aside0 (Below w.heap.size w w'))
  case atStart => exact ⟨((⟨#[]⟩ : ByteArray)), (0), (by first | rfl | (simp; done) | (simp [*]; done)), (by first | rfl | (simp; done) | (simp [*]; done)), H', ⟨Nat.le_refl _⟩, ⟨by (with_reducible repeat (first | refine blk_drewN ?_ _ | refine blk_drew ?_ | refine blk_alloc ?_ _)); exact BK198.out⟩, ⟨by repeat (first | (with_reducible first | exact HB.out | apply below_alloc | apply pw_below_drewN | apply below_drew1 | refine below_set ?_ GE198.out) | exact HB.out)⟩⟩
  case round =>
   clear H';try clear c3
   try clear hcz5_0
   try clear hcz5_1
   try clear hfz5_0
   try clear hfz5_1
   obtain ⟨x4_1, x5_1, rfl, rfl, HA, HK1, BK198, HB⟩ := hrel
   cases gk with
   | zero => exact absurd HA.out (by simp [selfstabref02_Format.l0])
   | succ k1 =>
    have H := HA.out
    clear HA;simp only [selfstabref02_Format.l0] at H
    by_cases c7 : x5_1 < (l0_1.length : Int)
    ·rw [if_pos c7] at H
     have c7b0 : decide (x5_1 < (l0_1.length : Int)) = true := decide_eq_true c7
     clear c7;by_cases c8 : 0 ≤ x5_1
     ·rw [if_pos c8] at H
      have c8b0 : decide (0 ≤ x5_1) = true := decide_eq_true c8
      clear c8;by_cases c9 : x5_1 < (l0_0.length : Int)
      ·rw [if_pos c9] at H
       have c9b0 : decide (x5_1 < (l0_0.length : Int)) = true := decide_eq_true c9
       clear c9;replace H := Option.bind_eq_some_iff.mp H
       obtain ⟨t201, A100, H⟩ := H
       replace H : (if 5 + t201.size ≤ 9223372036854775807 then (if x4_1.size + ((⟨#[110, 111, 100, 101, 32]⟩ : ByteArray) ++ t201).size ≤ 9223372036854775807 then (selfstabref02_Format.l1 k1 (x4_1 ++ ((⟨#[110, 111, 100, 101, 32]⟩ : ByteArray) ++ t201)) x5_1 0 l0_0 l0_1) else (none)) else (none)) = some (r1, r2) := H
       have A10 := Aside0.mk A100
       clear A100;by_cases c11 : 5 + t201.size ≤ 9223372036854775807
       ·rw [if_pos c11] at H
        have c11b0 := eq_true c11
        have c11b1 : decide (5 + t201.size ≤ 9223372036854775807) = true := decide_eq_true c11
        try have c11b2 : (9223372036854775807 < 5 + t201.size) = False := eq_false (Nat.not_lt.2 c11)
        by_cases c12 : x4_1.size + ((⟨#[110, 111, 100, 101, 32]⟩ : ByteArray) ++ t201).size ≤ 9223372036854775807
        ·rw [if_pos c12] at H
         have c12b0 := eq_true c12
         have c12b1 : decide (x4_1.size + ((⟨#[110, 111, 100, 101, 32]⟩ : ByteArray) ++ t201).size ≤ 9223372036854775807) = true := decide_eq_true c12
         try have c12b2 : (9223372036854775807 < x4_1.size + ((⟨#[110, 111, 100, 101, 32]⟩ : ByteArray) ++ t201).size) = False := eq_false (Nat.not_lt.2 c12)
         have H' := Aside0.mk H
         clear H;have hcz13_0 : wr.cell? ⟨gb198, 0, none⟩ = some (.slice A0_0 l0_0.length c0_0) := (blk_cell BK198.out 0).trans rfl
         have hcz13_1 : wr.cell? ⟨gb198, 1, none⟩ = some (.slice A0_1 l0_1.length c0_1) := (blk_cell BK198.out 1).trans rfl
         have hfz13_0 := blk_frozen BK198.out 0
         have hfz13_1 := blk_frozen BK198.out 1
         have p200 : 0 ≤ (x5_1 : Int) := of_decide_eq_true (by first | (with_reducible assumption) | assumption)
         have q200 : x5_1 < (l0_0.length : Int) := of_decide_eq_true (by first | (with_reducible assumption) | assumption)
         obtain ⟨ad200, e200, hx200_0⟩ := Kd.at_int HR0_0.out x5_1 p200 q200
         cases e200;replace hx200_0 := (HB.out.cell (World.block_lt_of_cell? w _ hx200_0)).trans hx200_0
         replace p200 := eq_true p200;replace q200 := eq_true q200
         go_wp2_with (first | ((with_reducible refine gate_callee (f := 27) rfl ?_); refine goesL_ (some 23) rfl rfl Tryd.func27 (by kernel_rfl) rfl #[.int .i64 (rd l0_0 x5_1)] rfl (by (try simp only [List.map_toArray, List.map_cons, List.map_nil]); first | done | rfl | (simp only [List.length_drop, List.length_take]; rfl)) ?_; (with_reducible refine (selfstabref02_Decimal.calls k1 (rd l0_0 x5_1) t201 _ A10.out).mono ?_); rintro e w14 ⟨rfl, hb⟩; refine ⟨_, rfl, ?_⟩; have n0_ := Aside0.mk (blk_below (g := gb198) (o := .cells #[.slice (some ad200) l0_0.length c0_0, .slice A0_1 l0_1.length c0_1] 26 (0, 0)) (by (with_reducible repeat (first | refine blk_drewN ?_ _ | refine blk_drew ?_ | refine blk_alloc ?_ _)); exact BK198.out) hb); have n1_ := Aside0.mk (below_step (by repeat (first | (with_reducible first | exact HB.out | apply below_alloc | apply pw_below_drewN | apply below_drew1 | refine below_set ?_ GE198.out) | exact HB.out)) hb); clear BK198; clear HB; have BK198 := n0_; have HB := n1_; clear n0_ n1_; (try clear hb); (try clear hb2); (try clear hk); (try clear hi)))
         go_loopg [4, 6] k1 (fun kq v4 v6 w' => ∃ (x4_2 : ByteArray) (x6_2 : Int), v4 = .string x4_2 ∧ v6 = .int .i64 x6_2 ∧ Aside0 (selfstabref02_Format.l1 kq x4_2 x5_1 x6_2 l0_0 l0_1 = some (r1, r2)) ∧ Aside0 (kq ≤ k1) ∧ Aside0 (w'.heap[gb198]? = some (.cells #[(.slice (some ad200) l0_0.length c0_0), (.slice A0_1 l0_1.length c0_1)] 26 (0, 0))) ∧ Aside0 (Below w.heap.size w w'))
         case atStart => exact ⟨(x4_1 ++ ((⟨#[110, 111, 100, 101, 32]⟩ : ByteArray) ++ t201)), (0), (by first | rfl | (simp; done) | (simp [*]; done)), (by first | rfl | (simp; done) | (simp [*]; done)), H', ⟨Nat.le_refl _⟩, ⟨by (with_reducible repeat (first | refine blk_drewN ?_ _ | refine blk_drew ?_ | refine blk_alloc ?_ _)); exact BK198.out⟩, ⟨by repeat (first | (with_reducible first | exact HB.out | apply below_alloc | apply pw_below_drewN | apply below_drew1 | refine below_set ?_ GE198.out) | exact HB.out)⟩⟩
         case round =>
          clear H';try clear c3
          try clear c7
          try clear c7b0
          try clear c8
          try clear c8b0
          try clear c9
          try clear c9b0
          try clear c11
          try clear c11b0
          try clear c11b1
          try clear c11b2
          try clear c12
          try clear c12b0
          try clear c12b1
          try clear c12b2
          try clear hcz13_0
          try clear hcz13_1
          try clear hcz5_0
          try clear hcz5_1
          try clear hfz13_0
          try clear hfz13_1
          try clear hfz5_0
          try clear hfz5_1
          try clear hx200_0
          try clear p200
          try clear q200
          obtain ⟨x4_2, x6_2, rfl, rfl, HA, HK2, BK198, HB⟩ := hrel
          cases gk with
          | zero => exact absurd HA.out (by simp [selfstabref02_Format.l1])
          | succ k2 =>
           have H := HA.out
           clear HA;simp only [selfstabref02_Format.l1] at H
           by_cases c15 : 0 ≤ x5_1
           ·rw [if_pos c15] at H
            have c15b0 : decide (0 ≤ x5_1) = true := decide_eq_true c15
            clear c15;by_cases c16 : x5_1 < (l0_1.length : Int)
            ·rw [if_pos c16] at H
             have c16b0 : decide (x5_1 < (l0_1.length : Int)) = true := decide_eq_true c16
             clear c16;by_cases c17 : x6_2 < ((rd_L3 l0_1 x5_1).length : Int)
             ·rw [if_pos c17] at H
              have c17b0 : decide (x6_2 < ((rd_L3 l0_1 x5_1).length : Int)) = true := decide_eq_true c17
              clear c17;by_cases c18 : 0 ≤ x6_2
              ·rw [if_pos c18] at H
               have c18b0 : decide (0 ≤ x6_2) = true := decide_eq_true c18
               clear c18;replace H := Option.bind_eq_some_iff.mp H
               obtain ⟨t205, A190, H⟩ := H
               replace H : (if 1 + t205.size ≤ 9223372036854775807 then (if ((⟨#[32]⟩ : ByteArray) ++ t205).size + 1 ≤ 9223372036854775807 then ((selfstabref02_Decimal.f k2 ((rd_T41 (rd_L3 l0_1 x5_1) x6_2).f1)).bind fun t208 => (if (((⟨#[32]⟩ : ByteArray) ++ t205) ++ (⟨#[47]⟩ : ByteArray)).size + t208.size ≤ 9223372036854775807 then (if x4_2.size + ((((⟨#[32]⟩ : ByteArray) ++ t205) ++ (⟨#[47]⟩ : ByteArray)) ++ t208).size ≤ 9223372036854775807 then (selfstabref02_Format.l1 k2 (x4_2 ++ ((((⟨#[32]⟩ : ByteArray) ++ t205) ++ (⟨#[47]⟩ : ByteArray)) ++ t208)) x5_1 (wrap64 (x6_2 + 1)) l0_0 l0_1) else (none)) else (none))) else (none)) else (none)) = some (r1, r2) := H
               have A19 := Aside0.mk A190
               clear A190;by_cases c20 : 1 + t205.size ≤ 9223372036854775807
               ·rw [if_pos c20] at H
                have c20b0 := eq_true c20
                have c20b1 : decide (1 + t205.size ≤ 9223372036854775807) = true := decide_eq_true c20
                try have c20b2 : (9223372036854775807 < 1 + t205.size) = False := eq_false (Nat.not_lt.2 c20)
                by_cases c21 : ((⟨#[32]⟩ : ByteArray) ++ t205).size + 1 ≤ 9223372036854775807
                ·rw [if_pos c21] at H
                 have c21b0 := eq_true c21
                 have c21b1 : decide (((⟨#[32]⟩ : ByteArray) ++ t205).size + 1 ≤ 9223372036854775807) = true := decide_eq_true c21
                 try have c21b3 : (9223372036854775807 < 1 + t205.size + 1) = False := eq_false (by have h_ := c21; have hl0_ : (⟨#[32]⟩ : ByteArray).size = 1 := rfl; simp only [ByteArray.size_append, ByteArray.size_extract] at h_; omega)
                 try have c21b2 : (9223372036854775807 < ((⟨#[32]⟩ : ByteArray) ++ t205).size + 1) = False := eq_false (Nat.not_lt.2 c21)
                 replace H := Option.bind_eq_some_iff.mp H
                 obtain ⟨t208, A220, H⟩ := H
                 replace H : (if (((⟨#[32]⟩ : ByteArray) ++ t205) ++ (⟨#[47]⟩ : ByteArray)).size + t208.size ≤ 9223372036854775807 then (if x4_2.size + ((((⟨#[32]⟩ : ByteArray) ++ t205) ++ (⟨#[47]⟩ : ByteArray)) ++ t208).size ≤ 9223372036854775807 then (selfstabref02_Format.l1 k2 (x4_2 ++ ((((⟨#[32]⟩ : ByteArray) ++ t205) ++ (⟨#[47]⟩ : ByteArray)) ++ t208)) x5_1 (wrap64 (x6_2 + 1)) l0_0 l0_1) else (none)) else (none)) = some (r1, r2) := H
                 have A22 := Aside0.mk A220
                 clear A220;by_cases c23 : (((⟨#[32]⟩ : ByteArray) ++ t205) ++ (⟨#[47]⟩ : ByteArray)).size + t208.size ≤ 9223372036854775807
                 ·rw [if_pos c23] at H
                  have c23b0 := eq_true c23
                  have c23b1 : decide ((((⟨#[32]⟩ : ByteArray) ++ t205) ++ (⟨#[47]⟩ : ByteArray)).size + t208.size ≤ 9223372036854775807) = true := decide_eq_true c23
                  try have c23b3 : (9223372036854775807 < 1 + t205.size + 1 + t208.size) = False := eq_false (by have h_ := c23; have hl0_ : (⟨#[32]⟩ : ByteArray).size = 1 := rfl; have hl1_ : (⟨#[47]⟩ : ByteArray).size = 1 := rfl; simp only [ByteArray.size_append, ByteArray.size_extract] at h_; omega)
                  try have c23b2 : (9223372036854775807 < (((⟨#[32]⟩ : ByteArray) ++ t205) ++ (⟨#[47]⟩ : ByteArray)).size + t208.size) = False := eq_false (Nat.not_lt.2 c23)
                  by_cases c24 : x4_2.size + ((((⟨#[32]⟩ : ByteArray) ++ t205) ++ (⟨#[47]⟩ : ByteArray)) ++ t208).size ≤ 9223372036854775807
                  ·rw [if_pos c24] at H
                   have c24b0 := eq_true c24
                   have c24b1 : decide (x4_2.size + ((((⟨#[32]⟩ : ByteArray) ++ t205) ++ (⟨#[47]⟩ : ByteArray)) ++ t208).size ≤ 9223372036854775807) = true := decide_eq_true c24
                   try have c24b2 : (9223372036854775807 < x4_2.size + ((((⟨#[32]⟩ : ByteArray) ++ t205) ++ (⟨#[47]⟩ : ByteArray)) ++ t208).size) = False := eq_false (Nat.not_lt.2 c24)
                   have H' := Aside0.mk H
                   clear H;have hcz25_0 : wr.cell? ⟨gb198, 0, none⟩ = some (.slice (some ad200) l0_0.length c0_0) := (blk_cell BK198.out 0).trans rfl
                   have hcz25_1 : wr.cell? ⟨gb198, 1, none⟩ = some (.slice A0_1 l0_1.length c0_1) := (blk_cell BK198.out 1).trans rfl
                   have hfz25_0 := blk_frozen BK198.out 0
                   have hfz25_1 := blk_frozen BK198.out 1
                   have p202 : 0 ≤ (x5_1 : Int) := of_decide_eq_true (by first | (with_reducible assumption) | assumption)
                   have q202 : x5_1 < (l0_1.length : Int) := of_decide_eq_true (by first | (with_reducible assumption) | assumption)
                   obtain ⟨ad202, A202_0, c202_0, e202, hx202_0, hl202_0, hi202_0⟩ := at_L3 HR0_1.out x5_1 p202 q202
                   cases e202;replace hx202_0 := (HB.out.cell (World.block_lt_of_cell? w _ hx202_0)).trans hx202_0
                   have HR202_0 := Aside0.mk hi202_0
                   have HC202_0 := Aside0.mk hl202_0
                   clear hi202_0 hl202_0;replace p202 := eq_true p202;replace q202 := eq_true q202;try go_wp2
                   have n0_ := Aside0.mk (blk_drew BK198.out)
                   have n1_ := Aside0.mk (below_drew1 HB.out)
                   clear BK198;clear HB;have BK198 := n0_
                   have HB := n1_
                   clear n0_ n1_;have p203 : 0 ≤ (x5_1 : Int) := of_decide_eq_true (by first | (with_reducible assumption) | assumption)
                   have q203 : x5_1 < (l0_1.length : Int) := of_decide_eq_true (by first | (with_reducible assumption) | assumption)
                   obtain ⟨ad203, A203_0, c203_0, e203, hx203_0, hl203_0, hi203_0⟩ := at_L3 HR0_1.out x5_1 p203 q203
                   have hw203_0 := hx203_0
                   obtain rfl : ad202 = ad203 := (by injection e203)
                   replace hx203_0 := (HB.out.cell (World.block_lt_of_cell? w _ hx203_0)).trans hx203_0
                   have HR203_0 := Aside0.mk hi203_0
                   have HC203_0 := Aside0.mk hl203_0
                   clear hi203_0 hl203_0;replace p203 := eq_true p203;replace q203 := eq_true q203;have p204 : 0 ≤ (x6_2 : Int) := of_decide_eq_true (by first | (with_reducible assumption) | assumption)
                   have q204 : x6_2 < ((rd_L3 l0_1 x5_1).length : Int) := of_decide_eq_true (by first | (with_reducible assumption) | assumption)
                   obtain ⟨ad204, e204, hx204_0, hx204_1⟩ := at_T41 HR203_0.out x6_2 p204 q204
                   have hw204_1 := hx204_1
                   have hw204_0 := hx204_0
                   cases e204;replace hx204_0 := (HB.out.cell (World.block_lt_of_cell? w _ hx204_0)).trans hx204_0
                   replace hx204_1 := (HB.out.cell (World.block_lt_of_cell? w _ hx204_1)).trans hx204_1
                   replace p204 := eq_true p204;replace q204 := eq_true q204;have p206 : 0 ≤ (x5_1 : Int) := of_decide_eq_true (by first | (with_reducible assumption) | assumption)
                   have q206 : x5_1 < (l0_1.length : Int) := of_decide_eq_true (by first | (with_reducible assumption) | assumption)
                   obtain ⟨ad206, A206_0, c206_0, e206, hx206_0, hl206_0, hi206_0⟩ := at_L3 HR0_1.out x5_1 p206 q206
                   have hw206_0 := hx206_0
                   obtain rfl : ad202 = ad206 := (by injection e206)
                   replace hx206_0 := (HB.out.cell (World.block_lt_of_cell? w _ hx206_0)).trans hx206_0
                   have HR206_0 := Aside0.mk hi206_0
                   have HC206_0 := Aside0.mk hl206_0
                   clear hi206_0 hl206_0;replace p206 := eq_true p206;replace q206 := eq_true q206;have ea_ := Option.some.inj (hx203_0.symm.trans hx206_0)
                   injection ea_ with ea_ en_ ec_
                   subst ea_;subst ec_;clear en_;have p207 : 0 ≤ (x6_2 : Int) := of_decide_eq_true (by first | (with_reducible assumption) | assumption)
                   have q207 : x6_2 < ((rd_L3 l0_1 x5_1).length : Int) := of_decide_eq_true (by first | (with_reducible assumption) | assumption)
                   obtain ⟨ad207, e207, hx207_0, hx207_1⟩ := at_T41 HR206_0.out x6_2 p207 q207
                   have hw207_1 := hx207_1
                   have hw207_0 := hx207_0
                   cases e207;replace hx207_0 := (HB.out.cell (World.block_lt_of_cell? w _ hx207_0)).trans hx207_0
                   replace hx207_1 := (HB.out.cell (World.block_lt_of_cell? w _ hx207_1)).trans hx207_1
                   replace p207 := eq_true p207;replace q207 := eq_true q207
                   refine start_ (n := 26) (S := fun w' => w'.cell? ⟨gb198, 0, none⟩ = some (.slice (some ad200) l0_0.length c0_0) ∧ w'.cell? ⟨gb198, 1, none⟩ = some (.slice (some ad202) l0_1.length c0_1) ∧ w'.cell? (ad202.add (x5_1).toNat) = some (.slice (some ad204) (rd_L3 l0_1 x5_1).length c203_0) ∧ w'.cell? (ad204.add ((x6_2).toNat * 2)) = some (.int .i64 ((rd_T41 (rd_L3 l0_1 x5_1) x6_2).f0)) ∧ w'.cell? ⟨(ad204.add ((x6_2).toNat * 2)).block, (ad204.add ((x6_2).toNat * 2)).off + 1, none⟩ = some (.int .i64 ((rd_T41 (rd_L3 l0_1 x5_1) x6_2).f1)) ∧ w'.cell? (ad202.add (x5_1).toNat) = some (.slice (some ad204) (rd_L3 l0_1 x5_1).length c203_0) ∧ w'.cell? (ad204.add ((x6_2).toNat * 2)) = some (.int .i64 ((rd_T41 (rd_L3 l0_1 x5_1) x6_2).f0)) ∧ w'.cell? ⟨(ad204.add ((x6_2).toNat * 2)).block, (ad204.add ((x6_2).toNat * 2)).off + 1, none⟩ = some (.int .i64 ((rd_T41 (rd_L3 l0_1 x5_1) x6_2).f1))) (ds := []) #[B0,B0,B0,B0,B0,B0,B0,B0,B0,B0,B0,B0,B0,B0,B0,B0,B0,B0,B0,B0,B0,B0,B0,B0,B0,B0] (by kernel_rfl) rfl rfl ⟨(blk_cell BK198.out 0).trans rfl, (blk_cell BK198.out 1).trans rfl, ((HB.out.cell (World.block_lt_of_cell? w _ hw203_0)).trans hw203_0), ((HB.out.cell (World.block_lt_of_cell? w _ hw204_0)).trans hw204_0), ((HB.out.cell (World.block_lt_of_cell? w _ hw204_1)).trans hw204_1), ((HB.out.cell (World.block_lt_of_cell? w _ hw206_0)).trans hw206_0), ((HB.out.cell (World.block_lt_of_cell? w _ hw207_0)).trans hw207_0), ((HB.out.cell (World.block_lt_of_cell? w _ hw207_1)).trans hw207_1)⟩ (fun hHeld => ?_); refine with_tabW selfstabref02_Format.tab11 selfstabref02_Format.bits11 (fun HT_ HW_ => ?_)
                   generalize wr.drew = w26 at BK198 HB HR203_0 HR206_0 hx203_0 hx204_0 hx204_1 hx206_0 hx207_0 hx207_1 hHeld ⊢
                   refine pure_ (i := 0) (N := some 36) (v := ?_) (a' := ?_) #[B1,B0,B0,B0,B0,B0,B0,B0,B0,B0,B0,B0,B0,B0,B0,B0,B0,B0,B0,B0,B0,B0,B0,B0,B0,B0] rfl rfl (any_of HT_.out (by kernel_rfl)) (fun _ _ _ h => h) (Or.inl ⟨by rfl, ?_⟩) ?_ ?_
                   rotate_left
                   ·intro w';go_simp;with_reducible rfl
                   rotate_left
                   ·simp only [Act.put, List.setIfInBounds_toArray, List.set_cons_zero, List.set_cons_succ, i64_w, i32_w];rfl
                   refine pure_ (i := 1) (N := some 37) (v := ?_) (a' := ?_) #[B1,B1,B0,B0,B0,B0,B0,B0,B0,B0,B0,B0,B0,B0,B0,B0,B0,B0,B0,B0,B0,B0,B0,B0,B0,B0] rfl rfl (any_of HT_.out (by kernel_rfl)) (fun _ _ _ h => h) (Or.inl ⟨by rfl, ?_⟩) ?_ ?_
                   rotate_left
                   ·intro w';go_simp;with_reducible rfl
                   rotate_left
                   ·simp only [Act.put, List.setIfInBounds_toArray, List.set_cons_zero, List.set_cons_succ, i64_w, i32_w];rfl
                   refine pure_ (i := 3) (N := some 39) (v := ?_) (a' := ?_) #[B1,B1,B0,B1,B0,B0,B0,B0,B0,B0,B0,B0,B0,B0,B0,B0,B0,B0,B0,B0,B0,B0,B0,B0,B0,B0] rfl rfl (any_of HT_.out (by kernel_rfl)) (fun _ _ _ h => h) (Or.inl ⟨by rfl, ?_⟩) ?_ ?_
                   rotate_left
                   ·intro w';go_simp;with_reducible rfl
                   rotate_left
                   ·simp only [Act.put, List.setIfInBounds_toArray, List.set_cons_zero, List.set_cons_succ, i64_w, i32_w];rfl
                   refine pure_ (i := 6) (N := some 42) (v := ?_) (a' := ?_) #[B1,B1,B0,B1,B0,B0,B1,B0,B0,B0,B0,B0,B0,B0,B0,B0,B0,B0,B0,B0,B0,B0,B0,B0,B0,B0] rfl rfl (any_of HT_.out (by kernel_rfl)) (fun _ _ _ h => h) (Or.inl ⟨by rfl, ?_⟩) ?_ ?_
                   rotate_left
                   ·intro w';go_simp;with_reducible rfl
                   rotate_left
                   ·simp only [Act.put, List.setIfInBounds_toArray, List.set_cons_zero, List.set_cons_succ, i64_w, i32_w];rfl
                   refine pure_ (i := 13) (N := some 49) (v := ?_) (a' := ?_) #[B1,B1,B0,B1,B0,B0,B1,B0,B0,B0,B0,B0,B0,B1,B0,B0,B0,B0,B0,B0,B0,B0,B0,B0,B0,B0] rfl rfl (any_of HT_.out (by kernel_rfl)) (fun _ _ _ h => h) (Or.inl ⟨by rfl, ?_⟩) ?_ ?_
                   rotate_left
                   ·intro w';go_simp;with_reducible rfl
                   rotate_left
                   ·simp only [Act.put, List.setIfInBounds_toArray, List.set_cons_zero, List.set_cons_succ, i64_w, i32_w];rfl
                   refine pure_ (i := 15) (N := some 51) (v := ?_) (a' := ?_) #[B1,B1,B0,B1,B0,B0,B1,B0,B0,B0,B0,B0,B0,B1,B0,B1,B0,B0,B0,B0,B0,B0,B0,B0,B0,B0] rfl rfl (any_of HT_.out (by kernel_rfl)) (fun _ _ _ h => h) (Or.inl ⟨by rfl, ?_⟩) ?_ ?_
                   rotate_left
                   ·intro w';go_simp;with_reducible rfl
                   rotate_left
                   ·simp only [Act.put, List.setIfInBounds_toArray, List.set_cons_zero, List.set_cons_succ, i64_w, i32_w];rfl
                   refine pure_ (i := 18) (N := some 54) (v := ?_) (a' := ?_) #[B1,B1,B0,B1,B0,B0,B1,B0,B0,B0,B0,B0,B0,B1,B0,B1,B0,B0,B1,B0,B0,B0,B0,B0,B0,B0] rfl rfl (any_of HT_.out (by kernel_rfl)) (fun _ _ _ h => h) (Or.inl ⟨by rfl, ?_⟩) ?_ ?_
                   rotate_left
                   ·intro w';go_simp;with_reducible rfl
                   rotate_left
                   ·simp only [Act.put, List.setIfInBounds_toArray, List.set_cons_zero, List.set_cons_succ, i64_w, i32_w];rfl
                   refine take_ (i := 2) (N := some 38) (v := ?_) (a' := ?_) #[B1,B1,B1,B1,B0,B0,B1,B0,B0,B0,B0,B0,B0,B1,B0,B1,B0,B0,B1,B0,B0,B0,B0,B0,B0,B0] rfl rfl (take_ofW HT_.out HW_.out (by kernel_rfl)) (fun _ _ _ h => h) (Or.inl ⟨by rfl, ?_⟩) hHeld ?_ ?_
                   rotate_left
                   ·rintro w' ⟨s0, s1, s2, s3, s4, s5, s6, s7⟩
                    go_simp;with_reducible rfl
                   rotate_left
                   ·simp only [Act.put, List.setIfInBounds_toArray, List.set_cons_zero, List.set_cons_succ, i64_w, i32_w];rfl
                   refine pure_ (i := 4) (N := some 40) (v := ?_) (a' := ?_) #[B1,B1,B1,B1,B1,B0,B1,B0,B0,B0,B0,B0,B0,B1,B0,B1,B0,B0,B1,B0,B0,B0,B0,B0,B0,B0] rfl rfl (any_of HT_.out (by kernel_rfl)) (fun _ _ _ h => h) (Or.inl ⟨by rfl, ?_⟩) ?_ ?_
                   rotate_left
                   ·intro w';go_simp;with_reducible rfl
                   rotate_left
                   ·simp only [Act.put, List.setIfInBounds_toArray, List.set_cons_zero, List.set_cons_succ, i64_w, i32_w];rfl
                   refine take_ (i := 5) (N := some 41) (v := ?_) (a' := ?_) #[B1,B1,B1,B1,B1,B1,B1,B0,B0,B0,B0,B0,B0,B1,B0,B1,B0,B0,B1,B0,B0,B0,B0,B0,B0,B0] rfl rfl (take_ofW HT_.out HW_.out (by kernel_rfl)) (fun _ _ _ h => h) (Or.inl ⟨by rfl, ?_⟩) hHeld ?_ ?_
                   rotate_left
                   ·rintro w' ⟨s0, s1, s2, s3, s4, s5, s6, s7⟩
                    go_simp;with_reducible rfl
                   rotate_left
                   ·simp only [Act.put, List.setIfInBounds_toArray, List.set_cons_zero, List.set_cons_succ, i64_w, i32_w];rfl
                   refine pure_ (i := 7) (N := some 43) (v := ?_) (a' := ?_) #[B1,B1,B1,B1,B1,B1,B1,B1,B0,B0,B0,B0,B0,B1,B0,B1,B0,B0,B1,B0,B0,B0,B0,B0,B0,B0] rfl rfl (any_of HT_.out (by kernel_rfl)) (fun _ _ _ h => h) (Or.inl ⟨by rfl, ?_⟩) ?_ ?_
                   rotate_left
                   ·intro w';go_simp;with_reducible rfl
                   rotate_left
                   ·simp only [Act.put, List.setIfInBounds_toArray, List.set_cons_zero, List.set_cons_succ, i64_w, i32_w];rfl
                   refine pure_ (i := 8) (N := some 44) (v := ?_) (a' := ?_) #[B1,B1,B1,B1,B1,B1,B1,B1,B1,B0,B0,B0,B0,B1,B0,B1,B0,B0,B1,B0,B0,B0,B0,B0,B0,B0] rfl rfl (any_of HT_.out (by kernel_rfl)) (fun _ _ _ h => h) (Or.inl ⟨by rfl, ?_⟩) ?_ ?_
                   rotate_left
                   ·intro w';go_simp;with_reducible rfl
                   rotate_left
                   ·simp only [Act.put, List.setIfInBounds_toArray, List.set_cons_zero, List.set_cons_succ, i64_w, i32_w];rfl
                   refine take_ (i := 9) (N := some 45) (v := ?_) (a' := ?_) #[B1,B1,B1,B1,B1,B1,B1,B1,B1,B1,B0,B0,B0,B1,B0,B1,B0,B0,B1,B0,B0,B0,B0,B0,B0,B0] rfl rfl (take_ofW HT_.out HW_.out (by kernel_rfl)) (fun _ _ _ h => h) (Or.inl ⟨by rfl, ?_⟩) hHeld ?_ ?_
                   rotate_left
                   ·rintro w' ⟨s0, s1, s2, s3, s4, s5, s6, s7⟩
                    go_simp;with_reducible rfl
                   rotate_left
                   ·simp only [Act.put, List.setIfInBounds_toArray, List.set_cons_zero, List.set_cons_succ, i64_w, i32_w];rfl
                   refine take_ (i := 14) (N := some 50) (v := ?_) (a' := ?_) #[B1,B1,B1,B1,B1,B1,B1,B1,B1,B1,B0,B0,B0,B1,B1,B1,B0,B0,B1,B0,B0,B0,B0,B0,B0,B0] rfl rfl (take_ofW HT_.out HW_.out (by kernel_rfl)) (fun _ _ _ h => h) (Or.inl ⟨by rfl, ?_⟩) hHeld ?_ ?_
                   rotate_left
                   ·rintro w' ⟨s0, s1, s2, s3, s4, s5, s6, s7⟩
                    go_simp;with_reducible rfl
                   rotate_left
                   ·simp only [Act.put, List.setIfInBounds_toArray, List.set_cons_zero, List.set_cons_succ, i64_w, i32_w];rfl
                   refine pure_ (i := 16) (N := some 52) (v := ?_) (a' := ?_) #[B1,B1,B1,B1,B1,B1,B1,B1,B1,B1,B0,B0,B0,B1,B1,B1,B1,B0,B1,B0,B0,B0,B0,B0,B0,B0] rfl rfl (any_of HT_.out (by kernel_rfl)) (fun _ _ _ h => h) (Or.inl ⟨by rfl, ?_⟩) ?_ ?_
                   rotate_left
                   ·intro w';go_simp;with_reducible rfl
                   rotate_left
                   ·simp only [Act.put, List.setIfInBounds_toArray, List.set_cons_zero, List.set_cons_succ, i64_w, i32_w];rfl
                   refine take_ (i := 17) (N := some 53) (v := ?_) (a' := ?_) #[B1,B1,B1,B1,B1,B1,B1,B1,B1,B1,B0,B0,B0,B1,B1,B1,B1,B1,B1,B0,B0,B0,B0,B0,B0,B0] rfl rfl (take_ofW HT_.out HW_.out (by kernel_rfl)) (fun _ _ _ h => h) (Or.inl ⟨by rfl, ?_⟩) hHeld ?_ ?_
                   rotate_left
                   ·rintro w' ⟨s0, s1, s2, s3, s4, s5, s6, s7⟩
                    go_simp;with_reducible rfl
                   rotate_left
                   ·simp only [Act.put, List.setIfInBounds_toArray, List.set_cons_zero, List.set_cons_succ, i64_w, i32_w];rfl
                   refine pure_ (i := 19) (N := some 55) (v := ?_) (a' := ?_) #[B1,B1,B1,B1,B1,B1,B1,B1,B1,B1,B0,B0,B0,B1,B1,B1,B1,B1,B1,B1,B0,B0,B0,B0,B0,B0] rfl rfl (any_of HT_.out (by kernel_rfl)) (fun _ _ _ h => h) (Or.inl ⟨by rfl, ?_⟩) ?_ ?_
                   rotate_left
                   ·intro w';go_simp;with_reducible rfl
                   rotate_left
                   ·simp only [Act.put, List.setIfInBounds_toArray, List.set_cons_zero, List.set_cons_succ, i64_w, i32_w];rfl
                   refine pure_ (i := 20) (N := some 56) (v := ?_) (a' := ?_) #[B1,B1,B1,B1,B1,B1,B1,B1,B1,B1,B0,B0,B0,B1,B1,B1,B1,B1,B1,B1,B1,B0,B0,B0,B0,B0] rfl rfl (any_of HT_.out (by kernel_rfl)) (fun _ _ _ h => h) (Or.inl ⟨by rfl, ?_⟩) ?_ ?_
                   rotate_left
                   ·intro w';go_simp;with_reducible rfl
                   rotate_left
                   ·simp only [Act.put, List.setIfInBounds_toArray, List.set_cons_zero, List.set_cons_succ, i64_w, i32_w];rfl
                   refine take_ (i := 21) (N := some 57) (v := ?_) (a' := ?_) #[B1,B1,B1,B1,B1,B1,B1,B1,B1,B1,B0,B0,B0,B1,B1,B1,B1,B1,B1,B1,B1,B1,B0,B0,B0,B0] rfl rfl (take_ofW HT_.out HW_.out (by kernel_rfl)) (fun _ _ _ h => h) (Or.inl ⟨by rfl, ?_⟩) hHeld ?_ ?_
                   rotate_left
                   ·rintro w' ⟨s0, s1, s2, s3, s4, s5, s6, s7⟩
                    go_simp;with_reducible rfl
                   rotate_left
                   ·simp only [Act.put, List.setIfInBounds_toArray, List.set_cons_zero, List.set_cons_succ, i64_w, i32_w];rfl
                   refine one_ (i := 10) (N := some 46) #[B1,B1,B1,B1,B1,B1,B1,B1,B1,B1,B1,B0,B0,B1,B1,B1,B1,B1,B1,B1,B1,B1,B0,B0,B0,B0] rfl rfl (one_of HT_.out (by kernel_rfl)) (by decide) (fun K hK => ?_)
                   refine goes_ Tryd.func27 (by kernel_rfl) rfl #[.int .i64 ((rd_T41 (rd_L3 l0_1 x5_1) x6_2).f0)] (by rfl) rfl rfl (by (try simp only [List.map_toArray, List.map_cons, List.map_nil]); first | done | rfl | (simp only [List.length_drop, List.length_take]; rfl)) ?_
                   with_reducible refine (selfstabref02_Decimal.calls k2 ((rd_T41 (rd_L3 l0_1 x5_1) x6_2).f0) t205 _ A19.out).mono ?_
                   rintro e w27 ⟨rfl, hb⟩
                   refine ⟨_, rfl, ?_⟩
                   have n0_ := Aside0.mk (blk_below (g := gb198) (o := .cells #[.slice (some ad200) l0_0.length c0_0, .slice (some ad202) l0_1.length c0_1] 26 (0, 0)) (by (with_reducible repeat (first | refine blk_drewN ?_ _ | refine blk_drew ?_ | refine blk_alloc ?_ _)); exact BK198.out) hb)
                   have n1_ := Aside0.mk (below_step (by repeat (first | (with_reducible first | exact HB.out | apply below_alloc | apply pw_below_drewN | apply below_drew1 | refine below_set ?_ GE198.out) | exact HB.out)) hb)
                   clear BK198;clear HB;have BK198 := n0_
                   have HB := n1_
                   clear n0_ n1_;(try clear hb)
                   (try clear hb2)
                   (try clear hk)
                   (try clear hi)
                   refine hK.out _ _ ⟨(blk_cell BK198.out 0).trans rfl, (blk_cell BK198.out 1).trans rfl, ((HB.out.cell (World.block_lt_of_cell? w _ hw203_0)).trans hw203_0), ((HB.out.cell (World.block_lt_of_cell? w _ hw204_0)).trans hw204_0), ((HB.out.cell (World.block_lt_of_cell? w _ hw204_1)).trans hw204_1), ((HB.out.cell (World.block_lt_of_cell? w _ hw206_0)).trans hw206_0), ((HB.out.cell (World.block_lt_of_cell? w _ hw207_0)).trans hw207_0), ((HB.out.cell (World.block_lt_of_cell? w _ hw207_1)).trans hw207_1)⟩ (fun hHeld => ?_)
                   clear hK K;refine norm_ (a' := ?_) ?_ ?_
                   rotate_left
                   ·show Act.put _ (some 46) _ = _
                    simp only [Act.put, List.setIfInBounds_toArray, List.set_cons_zero, List.set_cons_succ, i64_w, i32_w];rfl
                   refine pure_ (i := 11) (N := some 47) (v := ?_) (a' := ?_) #[B1,B1,B1,B1,B1,B1,B1,B1,B1,B1,B1,B1,B0,B1,B1,B1,B1,B1,B1,B1,B1,B1,B0,B0,B0,B0] rfl rfl (any_of HT_.out (by kernel_rfl)) (fun _ _ _ h => h) (Or.inl ⟨by rfl, ?_⟩) ?_ ?_
                   rotate_left
                   ·intro w';go_simp;with_reducible rfl
                   rotate_left
                   ·simp only [Act.put, List.setIfInBounds_toArray, List.set_cons_zero, List.set_cons_succ, i64_w, i32_w];rfl
                   refine pure_ (i := 12) (N := some 48) (v := ?_) (a' := ?_) #[B1,B1,B1,B1,B1,B1,B1,B1,B1,B1,B1,B1,B1,B1,B1,B1,B1,B1,B1,B1,B1,B1,B0,B0,B0,B0] rfl rfl (any_of HT_.out (by kernel_rfl)) (fun _ _ _ h => h) (Or.inl ⟨by rfl, ?_⟩) ?_ ?_
                   rotate_left
                   ·intro w';go_simp;with_reducible rfl
                   rotate_left
                   ·simp only [Act.put, List.setIfInBounds_toArray, List.set_cons_zero, List.set_cons_succ, i64_w, i32_w];rfl
                   refine one_ (i := 22) (N := some 58) #[B1,B1,B1,B1,B1,B1,B1,B1,B1,B1,B1,B1,B1,B1,B1,B1,B1,B1,B1,B1,B1,B1,B1,B0,B0,B0] rfl rfl (one_of HT_.out (by kernel_rfl)) (by decide) (fun K hK => ?_)
                   refine goes_ Tryd.func27 (by kernel_rfl) rfl #[.int .i64 ((rd_T41 (rd_L3 l0_1 x5_1) x6_2).f1)] (by rfl) rfl rfl (by (try simp only [List.map_toArray, List.map_cons, List.map_nil]); first | done | rfl | (simp only [List.length_drop, List.length_take]; rfl)) ?_
                   with_reducible refine (selfstabref02_Decimal.calls k2 ((rd_T41 (rd_L3 l0_1 x5_1) x6_2).f1) t208 _ A22.out).mono ?_
                   rintro e w28 ⟨rfl, hb⟩
                   refine ⟨_, rfl, ?_⟩
                   have n0_ := Aside0.mk (blk_below (g := gb198) (o := .cells #[.slice (some ad200) l0_0.length c0_0, .slice (some ad202) l0_1.length c0_1] 26 (0, 0)) (by (with_reducible repeat (first | refine blk_drewN ?_ _ | refine blk_drew ?_ | refine blk_alloc ?_ _)); exact BK198.out) hb)
                   have n1_ := Aside0.mk (below_step (by repeat (first | (with_reducible first | exact HB.out | apply below_alloc | apply pw_below_drewN | apply below_drew1 | refine below_set ?_ GE198.out) | exact HB.out)) hb)
                   clear BK198;clear HB;have BK198 := n0_
                   have HB := n1_
                   clear n0_ n1_;(try clear hb)
                   (try clear hb2)
                   (try clear hk)
                   (try clear hi)
                   refine hK.out _ _ ⟨(blk_cell BK198.out 0).trans rfl, (blk_cell BK198.out 1).trans rfl, ((HB.out.cell (World.block_lt_of_cell? w _ hw203_0)).trans hw203_0), ((HB.out.cell (World.block_lt_of_cell? w _ hw204_0)).trans hw204_0), ((HB.out.cell (World.block_lt_of_cell? w _ hw204_1)).trans hw204_1), ((HB.out.cell (World.block_lt_of_cell? w _ hw206_0)).trans hw206_0), ((HB.out.cell (World.block_lt_of_cell? w _ hw207_0)).trans hw207_0), ((HB.out.cell (World.block_lt_of_cell? w _ hw207_1)).trans hw207_1)⟩ (fun hHeld => ?_)
                   clear hK K;refine norm_ (a' := ?_) ?_ ?_
                   rotate_left
                   ·show Act.put _ (some 58) _ = _
                    simp only [Act.put, List.setIfInBounds_toArray, List.set_cons_zero, List.set_cons_succ, i64_w, i32_w];rfl
                   refine pure_ (i := 23) (N := some 59) (v := ?_) (a' := ?_) #[B1,B1,B1,B1,B1,B1,B1,B1,B1,B1,B1,B1,B1,B1,B1,B1,B1,B1,B1,B1,B1,B1,B1,B1,B0,B0] rfl rfl (any_of HT_.out (by kernel_rfl)) (fun _ _ _ h => h) (Or.inl ⟨by rfl, ?_⟩) ?_ ?_
                   rotate_left
                   ·intro w';go_simp;with_reducible rfl
                   rotate_left
                   ·simp only [Act.put, List.setIfInBounds_toArray, List.set_cons_zero, List.set_cons_succ, i64_w, i32_w];rfl
                   refine pure_ (i := 24) (N := some 60) (v := ?_) (a' := ?_) #[B1,B1,B1,B1,B1,B1,B1,B1,B1,B1,B1,B1,B1,B1,B1,B1,B1,B1,B1,B1,B1,B1,B1,B1,B1,B0] rfl rfl (any_of HT_.out (by kernel_rfl)) (fun _ _ _ h => h) (Or.inl ⟨by rfl, ?_⟩) ?_ ?_
                   rotate_left
                   ·intro w'
                    have c24z : (9223372036854775807 < x4_2.size + (1 + t205.size + 1 + t208.size)) = False := by
                     have h := c24b2
                     have e : ((((⟨#[32]⟩ : ByteArray) ++ t205) ++ (⟨#[47]⟩ : ByteArray)) ++ t208).size = 1 + t205.size + 1 + t208.size := by simp only [ByteArray.size_append]; rfl
                     rw [e] at h; exact h
                    go_simp;with_reducible rfl
                   rotate_left
                   ·simp only [Act.put, List.setIfInBounds_toArray, List.set_cons_zero, List.set_cons_succ, i64_w, i32_w];rfl
                   refine pure_ (i := 25) (N := some 4) (v := ?_) (a' := ?_) #[B1,B1,B1,B1,B1,B1,B1,B1,B1,B1,B1,B1,B1,B1,B1,B1,B1,B1,B1,B1,B1,B1,B1,B1,B1,B1] rfl rfl (any_of HT_.out (by kernel_rfl)) (fun _ _ _ h => h) (Or.inl ⟨by rfl, ?_⟩) ?_ ?_
                   rotate_left
                   ·intro w';go_simp;with_reducible rfl
                   rotate_left
                   ·simp only [Act.put, List.setIfInBounds_toArray, List.set_cons_zero, List.set_cons_succ, i64_w, i32_w];rfl
                   refine done_ (done_of HT_.out (by kernel_rfl)) ?_
                   try go_wp2
                   go_roundg k2
                   case measure => have := HK1.out; have := HK2.out; omega
                   case rel => exact ⟨(x4_2 ++ ((((⟨#[32]⟩ : ByteArray) ++ t205) ++ (⟨#[47]⟩ : ByteArray)) ++ t208)), (wrap64 (x6_2 + 1)), (by first | rfl | (simp; done) | (simp [*]; done)), (by first | rfl | (simp; done) | (simp [*]; done)), H', ⟨by have := HK1.out; have := HK2.out; omega⟩, ⟨by (with_reducible repeat (first | refine blk_drewN ?_ _ | refine blk_drew ?_ | refine blk_alloc ?_ _)); exact BK198.out⟩, ⟨by repeat (first | (with_reducible first | exact HB.out | apply below_alloc | apply pw_below_drewN | apply below_drew1 | refine below_set ?_ GE198.out) | exact HB.out)⟩⟩
                  ·rw [if_neg c24] at H
                   exact absurd H (by simp)
                 ·rw [if_neg c23] at H
                  exact absurd H (by simp)
                ·rw [if_neg c21] at H
                 exact absurd H (by simp)
               ·rw [if_neg c20] at H
                exact absurd H (by simp)
              ·rw [if_neg c18] at H
               exact absurd H (by simp)
             ·rw [if_neg c17] at H
              have c17b0 : decide (x6_2 < ((rd_L3 l0_1 x5_1).length : Int)) = false := decide_eq_false c17
              clear c17;by_cases c29 : x4_2.size + 1 ≤ 9223372036854775807
              ·rw [if_pos c29] at H
               have c29b0 := eq_true c29
               have c29b1 : decide (x4_2.size + 1 ≤ 9223372036854775807) = true := decide_eq_true c29
               try have c29b2 : (9223372036854775807 < x4_2.size + 1) = False := eq_false (Nat.not_lt.2 c29)
               have H' := Aside0.mk H
               clear H;have hcz30_0 : wr.cell? ⟨gb198, 0, none⟩ = some (.slice (some ad200) l0_0.length c0_0) := (blk_cell BK198.out 0).trans rfl
               have hcz30_1 : wr.cell? ⟨gb198, 1, none⟩ = some (.slice A0_1 l0_1.length c0_1) := (blk_cell BK198.out 1).trans rfl
               have hfz30_0 := blk_frozen BK198.out 0
               have hfz30_1 := blk_frozen BK198.out 1
               have p202 : 0 ≤ (x5_1 : Int) := of_decide_eq_true (by first | (with_reducible assumption) | assumption)
               have q202 : x5_1 < (l0_1.length : Int) := of_decide_eq_true (by first | (with_reducible assumption) | assumption)
               obtain ⟨ad202, A202_0, c202_0, e202, hx202_0, hl202_0, hi202_0⟩ := at_L3 HR0_1.out x5_1 p202 q202
               cases e202;replace hx202_0 := (HB.out.cell (World.block_lt_of_cell? w _ hx202_0)).trans hx202_0
               have HR202_0 := Aside0.mk hi202_0
               have HC202_0 := Aside0.mk hl202_0
               clear hi202_0 hl202_0;replace p202 := eq_true p202;replace q202 := eq_true q202;go_wp2
               go_roundg k2
               case measure => have := HK1.out; have := HK2.out; omega
               case rel => exact ⟨(x4_2 ++ (⟨#[10]⟩ : ByteArray)), (wrap64 (x5_1 + 1)), (by first | rfl | (simp; done) | (simp [*]; done)), (by first | rfl | (simp; done) | (simp [*]; done)), H', ⟨by have := HK1.out; have := HK2.out; omega⟩, ⟨by (with_reducible repeat (first | refine blk_drewN ?_ _ | refine blk_drew ?_ | refine blk_alloc ?_ _)); exact BK198.out⟩, ⟨by repeat (first | (with_reducible first | exact HB.out | apply below_alloc | apply pw_below_drewN | apply below_drew1 | refine below_set ?_ GE198.out) | exact HB.out)⟩⟩
              ·rw [if_neg c29] at H
               exact absurd H (by simp)
            ·rw [if_neg c16] at H
             exact absurd H (by simp)
           ·rw [if_neg c15] at H
            exact absurd H (by simp)
        ·rw [if_neg c12] at H
         exact absurd H (by simp)
       ·rw [if_neg c11] at H
        exact absurd H (by simp)
      ·rw [if_neg c9] at H
       exact absurd H (by simp)
     ·rw [if_neg c8] at H
      exact absurd H (by simp)
    ·rw [if_neg c7] at H
     have c7b0 : decide (x5_1 < (l0_1.length : Int)) = false := decide_eq_false c7
     clear c7;simp only [Option.some.injEq, Prod.mk.injEq] at H
     obtain ⟨rfl, rfl⟩ := H
     have hcz31_0 : wr.cell? ⟨gb198, 0, none⟩ = some (.slice A0_0 l0_0.length c0_0) := (blk_cell BK198.out 0).trans rfl
     have hcz31_1 : wr.cell? ⟨gb198, 1, none⟩ = some (.slice A0_1 l0_1.length c0_1) := (blk_cell BK198.out 1).trans rfl
     have hfz31_0 := blk_frozen BK198.out 0
     have hfz31_1 := blk_frozen BK198.out 1
     go_wp2
     go_ret2
     exact ⟨by first | rfl | (simp [errW_none, errW_some] <;> rfl) | (simp [*, errW_none, errW_some] <;> rfl), by repeat (first | (with_reducible first | exact HB.out | apply below_alloc | apply pw_below_drewN | apply below_drew1 | refine below_set ?_ GE198.out) | exact HB.out)⟩
 ·replace c3 := Bool.eq_false_iff.mpr c3
  subst c3;have H1 : (some ((⟨#[]⟩ : ByteArray), 1)) = some (r1, r2) := by rw [if_neg (show ¬ (false = true) by decide)] at H; exact H
  clear H;have H := H1
  clear H1;simp only [Option.some.injEq, Prod.mk.injEq] at H
  obtain ⟨rfl, rfl⟩ := H
  go_enter Tryd.func15, Tryd.ntmps15
  go_wp2_with (first | ((with_reducible refine gate_dst (N := 1) rfl ?_); refine box_event ?hg (N := 1) ?hd (cs := #[.slice A0_0 l0_0.length c0_0, .slice A0_1 l0_1.length c0_1]) (t := 26) ?hr ?_; (case hd => rfl); (case hg => rfl); (case hr => first | (go_simp; done) | (go_simp; rfl)); intro gb198 hg w32 hbox hb; have n0_ := Aside0.mk (below_step (by repeat (first | (with_reducible first | exact HB.out | apply below_alloc | apply pw_below_drewN | apply below_drew1) | exact HB.out)) hb); have n1_ := Aside0.mk (hbox); have n2_ := Aside0.mk ((by rw [hg]; exact (below_size (by repeat (first | (with_reducible first | exact HB.out | apply below_alloc | apply pw_below_drewN | apply below_drew1) | exact HB.out))) : w.heap.size ≤ gb198)); have n3_ := Aside0.mk ((by rw [hg]; exact (below_size (by repeat (first | (with_reducible first | exact HB.out | apply below_alloc | apply pw_below_drewN | apply below_drew1) | exact HB.out))) : w.heap.size ≤ gb198)); clear HB; have HB := n0_; have BK198 := n1_; have GW198 := n2_; have GE198 := n3_; clear n0_ n1_ n2_ n3_; clear hb hbox hg; have hcz33_0 : w32.cell? ⟨gb198, 0, none⟩ = some (.slice A0_0 l0_0.length c0_0) := (blk_cell BK198.out 0).trans rfl; have hcz33_1 : w32.cell? ⟨gb198, 1, none⟩ = some (.slice A0_1 l0_1.length c0_1) := (blk_cell BK198.out 1).trans rfl; have hfz33_0 := blk_frozen BK198.out 0; have hfz33_1 := blk_frozen BK198.out 1) | ((with_reducible refine gate_callee (f := 14) rfl ?_); refine goesL_ (some 8) rfl rfl Tryd.func14 (by kernel_rfl) rfl #[.agg #[.slice A0_0 l0_0.length c0_0, .slice A0_1 l0_1.length c0_1]] rfl (by (try simp only [List.map_toArray, List.map_cons, List.map_nil]); first | done | rfl | (simp only [List.length_drop, List.length_take]; rfl)) ?_; (with_reducible refine (selfstabref01_Valid.calls k _ _ l0_0 _ _ l0_1 false _ ?side1 ?side2 ?side3 ?side4 A2.out).mono ?_); (case side1 => repeat (first | exact (Kd.C_below HR0_0.out HB.out) | (with_reducible refine Kd.C_alloc ?_ _) | (with_reducible refine Kd.C_drewN ?_ _) | (with_reducible refine Kd.C_drew ?_))); (case side2 => exact HC0_0.out); (case side3 => repeat (first | exact (Kd.C_below HR0_1.out HB.out) | (with_reducible refine Kd.C_alloc ?_ _) | (with_reducible refine Kd.C_drewN ?_ _) | (with_reducible refine Kd.C_drew ?_))); (case side4 => exact HC0_1.out); rintro e w34 ⟨rfl, hb⟩; refine ⟨_, rfl, ?_⟩; have n0_ := Aside0.mk (blk_below (g := gb198) (o := .cells #[.slice A0_0 l0_0.length c0_0, .slice A0_1 l0_1.length c0_1] 26 (0, 0)) (by (with_reducible repeat (first | refine blk_drewN ?_ _ | refine blk_drew ?_ | refine blk_alloc ?_ _)); exact BK198.out) hb); have n1_ := Aside0.mk (below_step (by repeat (first | (with_reducible first | exact HB.out | apply below_alloc | apply pw_below_drewN | apply below_drew1 | refine below_set ?_ GE198.out) | exact HB.out)) hb); clear BK198; clear HB; have BK198 := n0_; have HB := n1_; clear n0_ n1_; (try clear hb); (try clear hb2); (try clear hk); (try clear hi)))
  go_ret2
  exact ⟨by first | rfl | (simp [errW_none, errW_some] <;> rfl) | (simp [*, errW_none, errW_some] <;> rfl), by repeat (first | (with_reducible first | exact HB.out | apply below_alloc | apply pw_below_drewN | apply below_drew1 | refine below_set ?_ GE198.out) | exact HB.out)⟩
end Go.Proofs.YtinfejpkjddbiaaDoor.P
