/- Part of the proof of the law GraphtextWritesBack: P2. -/
import Derived.Test.YtinfejpkjddbiaaDoorGraphtextWritesBackP0
namespace Go.Proofs.YtinfejpkjddbiaaDoor.P
open Go.RowKit Go.Proofs.YtinfejpkjddbiaaDoorW.PrintWords Go.Proofs.YtinfejpkjddbiaaDoorW.PrintLast Go.Proofs.YtinfejpkjddbiaaDoorW.PrintMore
attribute [local go_sem] max2_int min2_int max_two min_two max_three min_three max_four min_four
set_option linter.unusedVariables false
set_option linter.unusedSimpArgs false
def strings_Split.f (a0 : ByteArray) (a1 : ByteArray) : Option (List ByteArray) := if a0.size < 4294967281 then (if 1 ≤ a1.size then some (Lib.splitB a1 0 (Lib.countB a0 a1) a0) else none) else none
theorem strings_Split.calls (a0 : ByteArray) (a1 : ByteArray) (r : List ByteArray) (w : World) (hshp : Shp w) (h : strings_Split.f a0 a1 = some r) :
  Calls Tryd.prog 19 #[.string a0, .string a1] w fun e w' => ∃ v0_ : Value, e = .returned v0_ ∧ Kd.R Kd.string 9 w' w.heap.size (fun _ => True) v0_ r ∧ Below w.heap.size w w' := by
 unfold strings_Split.f at h
 by_cases hs : a0.size < 4294967281
 case neg => rw [if_neg hs] at h; cases h
 rw [if_pos hs] at h
 by_cases h1 : 1 ≤ a1.size
 case neg => rw [if_neg h1] at h; cases h
 rw [if_pos h1] at h
 obtain rfl := Option.some.inj h
 obtain ⟨m, hm⟩ := hshp.cell
 refine (Tryd.strings_Split a0 a1 m w hs hm h1).mono ?_
 rintro e w' ⟨rfl, rfl⟩
 have hlen := Lib.splitB_all a1 h1 0 _ a0 rfl
 have hle := Lib.countB_le a1 h1 _ a0 (Nat.le_refl _)
 have hsz : Kd.string.sz = 1 := rfl
 refine ⟨_, rfl, ⟨fun _ _ => trivial, (Lib.splitB a1 0 (Lib.countB a0 a1) a0).map Value.string, ⟨by simp [hsz], .inr ⟨w.heap.size, Lib.countB a0 a1 + 1, _, by rw [hlen], Nat.le_refl _, blk_new w _, by omega, by unfold maxLen; omega, by simp [hlen, hsz], by rw [hsz, Nat.mul_one]; exact List.take_of_length_le (by simp [hlen])⟩⟩, ⟨by simp [hsz], fun j p hj => ?_⟩⟩, below_alloc (Below.refl _ _) _⟩
 show ((((Lib.splitB a1 0 (Lib.countB a0 a1) a0).map Value.string).drop (j * 1)).take 1) = [Value.string p]
 rw [Nat.mul_one]
 have hj2 : ((Lib.splitB a1 0 (Lib.countB a0 a1) a0).map Value.string)[j]? = some (.string p) := by rw [List.getElem?_map, hj]; rfl
 obtain ⟨hlt, he⟩ := List.getElem?_eq_some_iff.mp hj2
 rw [List.drop_eq_getElem_cons hlt, List.take_succ_cons, List.take_zero, he]
def stringslite_HasSuffix.f (a0 : ByteArray) (a1 : ByteArray) : Option (Bool) := if (a0.size : Int) ≥ (a1.size : Int) then (if 0 ≤ (wrap64 ((a0.size : Int) - (a1.size : Int))) then (if (wrap64 ((a0.size : Int) - (a1.size : Int))) ≤ (a0.size : Int) then (some ((a0.extract ((wrap64 ((a0.size : Int) - (a1.size : Int))) : Int).toNat a0.size).toList == a1.toList)) else (none)) else (none)) else (some false)
set_option maxHeartbeats 6000000 in
set_option maxRecDepth 100000 in
theorem stringslite_HasSuffix.calls (a0 : ByteArray) (a1 : ByteArray) (r : Bool) (w : World) (h : stringslite_HasSuffix.f a0 a1 = some r) :
  Calls Tryd.prog 43 #[.string a0, .string a1] w fun e w' => e = .returned (.bool r) ∧ Drawn0 w w' := by
 have H : (if (a0.size : Int) ≥ (a1.size : Int) then (if 0 ≤ (wrap64 ((a0.size : Int) - (a1.size : Int))) then (if (wrap64 ((a0.size : Int) - (a1.size : Int))) ≤ (a0.size : Int) then (some ((a0.extract ((wrap64 ((a0.size : Int) - (a1.size : Int))) : Int).toNat a0.size).toList == a1.toList)) else (none)) else (none)) else (some false)) = some r := h
 clear h;by_cases c3 : (a0.size : Int) ≥ (a1.size : Int)
 ·rw [if_pos c3] at H
  have c3b0 : decide ((a1.size : Int) ≤ (a0.size : Int)) = true := decide_eq_true c3
  have c3b1 : decide (a1.size ≤ a0.size) = true := decide_eq_true (Int.ofNat_le.mp c3)
  clear c3;obtain ⟨ji4, hji4⟩ : ∃ j_ : Int, (wrap64 ((a0.size : Int) - (a1.size : Int))) = j_ := ⟨_, rfl⟩
  replace H : (if 0 ≤ (ji4) then (if (ji4) ≤ (a0.size : Int) then (some ((a0.extract ((ji4) : Int).toNat a0.size).toList == a1.toList)) else (none)) else (none)) = some r := by first | (rw [hji4] at H; exact H) | (simp only [hji4] at H ⊢; exact H)
  have hji4w : (IntKind.i64.wrap ((a0.size : Int) - (a1.size : Int))) = ji4 := (i64_w _).trans hji4
  by_cases c5 : 0 ≤ (ji4)
  ·rw [if_pos c5] at H
   have c5b0 := eq_true c5
   have c5b1 : decide (0 ≤ (ji4)) = true := decide_eq_true c5
   clear c5;by_cases c6 : (ji4) ≤ (a0.size : Int)
   ·rw [if_pos c6] at H
    have c6b0 := eq_true c6
    have c6b1 : decide ((ji4) ≤ (a0.size : Int)) = true := decide_eq_true c6
    clear c6;obtain rfl := Option.some.inj H
    go_enter Tryd.func43, Tryd.ntmps43
    go_wp2
    go_ret
    exact ⟨by first | rfl | (simp; done) | (simp only [← hji4] <;> (first | rfl | simp)) | (simp [*]; done), by repeat (first | exact Drawn0.refl _ | apply Drawn0.step)⟩
   ·rw [if_neg c6] at H
    exact absurd H (by simp)
  ·rw [if_neg c5] at H
   exact absurd H (by simp)
 ·rw [if_neg c3] at H
  have c3b0 : decide ((a1.size : Int) ≤ (a0.size : Int)) = false := decide_eq_false c3
  have c3b1 : decide (a1.size ≤ a0.size) = false := decide_eq_false (fun h => c3 (Int.ofNat_le.mpr h))
  clear c3;obtain rfl := Option.some.inj H
  go_enter Tryd.func43, Tryd.ntmps43
  go_wp2
  go_ret
  exact ⟨by first | rfl | (simp; done) | (simp [*]; done), by repeat (first | exact Drawn0.refl _ | apply Drawn0.step)⟩
def stringslite_TrimSuffix.f (a0 : ByteArray) (a1 : ByteArray) : Option (ByteArray) := (stringslite_HasSuffix.f a0 a1).bind fun t101 => (if t101 = true then (if 0 ≤ (wrap64 ((a0.size : Int) - (a1.size : Int))) then (if (wrap64 ((a0.size : Int) - (a1.size : Int))) ≤ (a0.size : Int) then (some (a0.extract 0 ((wrap64 ((a0.size : Int) - (a1.size : Int))) : Int).toNat)) else (none)) else (none)) else (some a0))
set_option maxHeartbeats 6000000 in
set_option maxRecDepth 100000 in
theorem stringslite_TrimSuffix.calls (a0 : ByteArray) (a1 : ByteArray) (r : ByteArray) (w : World) (h : stringslite_TrimSuffix.f a0 a1 = some r) :
  Calls Tryd.prog 34 #[.string a0, .string a1] w fun e w' => e = .returned (.string r) ∧ Drawn0 w w' := by
 have H : ((stringslite_HasSuffix.f a0 a1).bind fun t101 => (if t101 = true then (if 0 ≤ (wrap64 ((a0.size : Int) - (a1.size : Int))) then (if (wrap64 ((a0.size : Int) - (a1.size : Int))) ≤ (a0.size : Int) then (some (a0.extract 0 ((wrap64 ((a0.size : Int) - (a1.size : Int))) : Int).toNat)) else (none)) else (none)) else (some a0))) = some r := h
 clear h;replace H := Option.bind_eq_some_iff.mp H
 obtain ⟨t101, A30, H⟩ := H
 replace H : (if t101 = true then (if 0 ≤ (wrap64 ((a0.size : Int) - (a1.size : Int))) then (if (wrap64 ((a0.size : Int) - (a1.size : Int))) ≤ (a0.size : Int) then (some (a0.extract 0 ((wrap64 ((a0.size : Int) - (a1.size : Int))) : Int).toNat)) else (none)) else (none)) else (some a0)) = some r := H
 have A3 := Aside0.mk A30
 clear A30;by_cases c4 : t101 = true
 ·subst c4;have H1 : (if 0 ≤ (wrap64 ((a0.size : Int) - (a1.size : Int))) then (if (wrap64 ((a0.size : Int) - (a1.size : Int))) ≤ (a0.size : Int) then (some (a0.extract 0 ((wrap64 ((a0.size : Int) - (a1.size : Int))) : Int).toNat)) else (none)) else (none)) = some r := by rw [if_pos rfl] at H; exact H
  clear H;have H := H1
  clear H1;obtain ⟨ji5, hji5⟩ : ∃ j_ : Int, (wrap64 ((a0.size : Int) - (a1.size : Int))) = j_ := ⟨_, rfl⟩
  replace H : (if 0 ≤ (ji5) then (if (ji5) ≤ (a0.size : Int) then (some (a0.extract 0 ((ji5) : Int).toNat)) else (none)) else (none)) = some r := by first | (rw [hji5] at H; exact H) | (simp only [hji5] at H ⊢; exact H)
  (try rw [hji5] at A3)
  have hji5w : (IntKind.i64.wrap ((a0.size : Int) - (a1.size : Int))) = ji5 := (i64_w _).trans hji5
  by_cases c6 : 0 ≤ (ji5)
  ·rw [if_pos c6] at H
   have c6b0 := eq_true c6
   have c6b1 : decide (0 ≤ (ji5)) = true := decide_eq_true c6
   clear c6;by_cases c7 : (ji5) ≤ (a0.size : Int)
   ·rw [if_pos c7] at H
    have c7b0 := eq_true c7
    have c7b1 : decide ((ji5) ≤ (a0.size : Int)) = true := decide_eq_true c7
    clear c7;obtain rfl := Option.some.inj H
    go_enter Tryd.func34, Tryd.ntmps34
    go_wp2_with (first | ((with_reducible refine gate_callee (f := 43) rfl ?_); refine goesL_ (some 7) rfl rfl Tryd.func43 (by kernel_rfl) rfl #[.string a0, .string a1] rfl (by (try simp only [List.map_toArray, List.map_cons, List.map_nil]); first | done | rfl | (simp only [List.length_drop, List.length_take]; rfl)) ?_; (with_reducible refine (stringslite_HasSuffix.calls a0 a1 true _ A3.out).mono ?_); rintro e w' ⟨rfl, ⟨nd, rfl⟩⟩; refine ⟨_, rfl, ?_⟩))
    go_ret
    exact ⟨by first | rfl | (simp; done) | (simp only [← hji5] <;> (first | rfl | simp)) | (simp [*]; done), by repeat (first | exact Drawn0.refl _ | apply Drawn0.step)⟩
   ·rw [if_neg c7] at H
    exact absurd H (by simp)
  ·rw [if_neg c6] at H
   exact absurd H (by simp)
 ·replace c4 := Bool.eq_false_iff.mpr c4
  subst c4;have H1 : (some a0) = some r := by rw [if_neg (show ¬ (false = true) by decide)] at H; exact H
  clear H;have H := H1
  clear H1;obtain rfl := Option.some.inj H
  go_enter Tryd.func34, Tryd.ntmps34
  go_wp2_with (first | ((with_reducible refine gate_callee (f := 43) rfl ?_); refine goesL_ (some 7) rfl rfl Tryd.func43 (by kernel_rfl) rfl #[.string a0, .string a1] rfl (by (try simp only [List.map_toArray, List.map_cons, List.map_nil]); first | done | rfl | (simp only [List.length_drop, List.length_take]; rfl)) ?_; (with_reducible refine (stringslite_HasSuffix.calls a0 a1 false _ A3.out).mono ?_); rintro e w' ⟨rfl, ⟨nd, rfl⟩⟩; refine ⟨_, rfl, ?_⟩))
  go_ret
  exact ⟨by first | rfl | (simp; done) | (simp [*]; done), by repeat (first | exact Drawn0.refl _ | apply Drawn0.step)⟩
def strings_TrimSuffix.f (a0 : ByteArray) (a1 : ByteArray) : Option (ByteArray) := (stringslite_TrimSuffix.f a0 a1).bind fun t102 => (some t102)
set_option maxHeartbeats 6000000 in
set_option maxRecDepth 100000 in
theorem strings_TrimSuffix.calls (a0 : ByteArray) (a1 : ByteArray) (r : ByteArray) (w : World) (h : strings_TrimSuffix.f a0 a1 = some r) :
  Calls Tryd.prog 20 #[.string a0, .string a1] w fun e w' => e = .returned (.string r) ∧ Drawn0 w w' := by
 have H : ((stringslite_TrimSuffix.f a0 a1).bind fun t102 => (some t102)) = some r := h
 clear h;replace H := Option.bind_eq_some_iff.mp H
 obtain ⟨t102, A30, H⟩ := H
 replace H : (some t102) = some r := H
 have A3 := Aside0.mk A30
 clear A30;obtain rfl := Option.some.inj H
 go_enter Tryd.func20, Tryd.ntmps20
 go_wp2_with (first | ((with_reducible refine gate_callee (f := 34) rfl ?_); refine goesL_ (some 7) rfl rfl Tryd.func34 (by kernel_rfl) rfl #[.string a0, .string a1] rfl (by (try simp only [List.map_toArray, List.map_cons, List.map_nil]); first | done | rfl | (simp only [List.length_drop, List.length_take]; rfl)) ?_; (with_reducible refine (stringslite_TrimSuffix.calls a0 a1 t102 _ A3.out).mono ?_); rintro e w' ⟨rfl, ⟨nd, rfl⟩⟩; refine ⟨_, rfl, ?_⟩))
 go_ret
 exact ⟨by first | rfl | (simp; done) | (simp [*]; done), by repeat (first | exact Drawn0.refl _ | apply Drawn0.step)⟩
def graphtext_number.l : List UInt8 → Int → Int × Bool
 | [], n => (n, true)
 | c :: cs, n => if (c.toNat : Int) < 48 then (0, false) else if (c.toNat : Int) > 57 then (0, false) else graphtext_number.l cs (10 * n + ((c.toNat : Int) - 48))
def graphtext_number.f (a0 : ByteArray) : Option (Int × Bool) :=
 some (if (a0.size : Int) < 1 then (0, false) else if (a0.size : Int) > 6 then (0, false) else if bt a0 0 = 48 ∧ (a0.size : Int) > 1 then (0, false) else graphtext_number.l a0.data.toList 0)
set_option maxHeartbeats 8000000 in
set_option maxRecDepth 100000 in
theorem graphtext_number.calls (a0 : ByteArray) (r1 : Int) (r2 : Bool) (w : World) (h : graphtext_number.f a0 = some (r1, r2)) :
  Calls Tryd.prog 35 #[.string a0] w fun e w' => e = .returned (.tuple #[.int .i64 r1, .bool r2]) ∧ Below w.heap.size w w' := by
 unfold graphtext_number.f at h
 replace h := Option.some.inj h
 by_cases h0 : (a0.size : Int) < 1
 ·rw [if_pos h0] at h
  obtain ⟨rfl, rfl⟩ := Prod.mk.inj h
  have c1 : decide ((a0.size : Int) < 1) = true := decide_eq_true h0
  have c2 : decide (a0.size < 1) = true := decide_eq_true (by omega)
  clear h h0;go_enter Tryd.func35, Tryd.ntmps35
  go_wp2
  go_ret2
  exact ⟨rfl, Below.refl _ _⟩
 rw [if_neg h0] at h
 have c1 : decide ((a0.size : Int) < 1) = false := decide_eq_false h0
 have c2 : decide (a0.size < 1) = false := decide_eq_false (by omega)
 by_cases h1 : (a0.size : Int) > 6
 ·rw [if_pos h1] at h
  obtain ⟨rfl, rfl⟩ := Prod.mk.inj h
  have c3 : decide (6 < (a0.size : Int)) = true := decide_eq_true h1
  have c4 : decide (6 < a0.size) = true := decide_eq_true (by omega)
  clear h h0 h1;go_enter Tryd.func35, Tryd.ntmps35
  go_wp2
  go_ret2
  exact ⟨rfl, Below.refl _ _⟩
 rw [if_neg h1] at h
 have c3 : decide (6 < (a0.size : Int)) = false := decide_eq_false h1
 have c4 : decide (6 < a0.size) = false := decide_eq_false (by omega)
 have q5 : 0 < a0.size := by omega
 have qi5 : (0 < (a0.size : Int)) = True := eq_true (by omega)
 have hx5 : ∀ h : 0 < a0.size, ((a0[0]'h).toNat : Int) = bt a0 0 := bt_at a0 0
 by_cases h2 : bt a0 0 = 48 ∧ (a0.size : Int) > 1
 ·rw [if_pos h2] at h
  obtain ⟨rfl, rfl⟩ := Prod.mk.inj h
  have c5 : ((bt a0 0) == 48) = true := beq_iff_eq.mpr h2.1
  have c6 : decide (1 < (a0.size : Int)) = true := decide_eq_true h2.2
  have c7 : decide (1 < a0.size) = true := decide_eq_true (by omega)
  clear h h0 h1 h2;go_enter Tryd.func35, Tryd.ntmps35
  go_wp2
  go_ret2
  exact ⟨rfl, Below.refl _ _⟩
 rw [if_neg h2] at h
 have c : (((bt a0 0) == 48) = false) ∨ (((bt a0 0) == 48) = true ∧ decide (1 < (a0.size : Int)) = false ∧ decide (1 < a0.size) = false) := by
  by_cases h3 : bt a0 0 = 48
  ·exact .inr ⟨beq_iff_eq.mpr h3, decide_eq_false (fun h4 => h2 ⟨h3, h4⟩), decide_eq_false (fun h4 => h2 ⟨h3, by omega⟩)⟩
  ·exact .inl (beq_eq_false_iff_ne.mpr h3)
 have hl : a0.data.toList.length = a0.size := data_length a0
 have HL := Aside0.mk hl
 have H := Aside0.mk h
 have S6 := Aside0.mk (show a0.size ≤ 6 by omega)
 clear h hl h0 h1 h2;go_enter Tryd.func35, Tryd.ntmps35
 rcases c with c5 | ⟨c5, c6, c7⟩
 all_goals
  go_wp2
  (try clear c6)
  (try clear c7)
  clear hx5 q5 qi5 c1 c2 c3 c4 c5;go_loopg [4] a0.size (fun kq v4 w' => ∃ (j : Nat) (m : Int), v4 = .int .i64 m ∧ Aside0 (j + kq = a0.size) ∧ Aside0 (w' = w.iter a0 j) ∧ Aside0 (0 ≤ m ∧ m < ((10 ^ j : Nat) : Int)) ∧ Aside0 (graphtext_number.l (a0.data.toList.drop j) m = (r1, r2)))
  case atStart => exact ⟨0, 0, rfl, ⟨by omega⟩, ⟨rfl⟩, ⟨by decide⟩, ⟨by rw [List.drop_zero]; exact H.out⟩⟩
  case round =>
   clear H;obtain ⟨j, m, rfl, HJ, HWW, HM, HA⟩ := hrel
   obtain rfl := HWW.out
   clear HWW;cases gk with
   | zero =>
    obtain rfl : j = a0.size := by have := HJ.out; omega
    have hr := HA.out
    rw [List.drop_of_length_le (by have := HL.out; omega)] at hr
    obtain ⟨rfl, rfl⟩ := Prod.mk.inj hr
    have hend := run_next_end (P := Tryd.prog) w a0 a0.size 0 (Nat.lt_irrefl _)
    clear HA hr HJ;go_wp2
    go_ret2
    exact ⟨rfl, below_alloc (Below.refl _ _) _⟩
   | succ k1 =>
    have hlt : j < a0.size := by have := HJ.out; omega
    have hd : a0.data.toList.drop j = a0[j] :: a0.data.toList.drop (j + 1) := by
     have := HL.out
     rw [List.drop_eq_getElem_cons (by omega)]
     rfl
    have hr := HA.out
    rw [hd, graphtext_number.l] at hr
    clear hd HA
    have hpow : m < 100000 := by
     have h9 := HM.out.2
     have hj5 : j ≤ 5 := by have := S6.out; omega
     have : (10 : Nat) ^ j ≤ 10 ^ 5 := Nat.pow_le_pow_right (by omega) hj5
     omega
    have hm0 := HM.out.1
    by_cases hb : (a0[j]).toNat < 128
    ·have hnext := run_next_ascii (P := Tryd.prog) w a0 j 0 hlt hb
     have hb2 : 0 ≤ ((a0[j]).toNat : Int) := by omega
     generalize hg : (((a0[j]).toNat : Nat) : Int) = b at hr hnext hb2
     have hb3 : b < 128 := by omega
     clear hg hb;by_cases d1 : b < 48
     ·rw [if_pos d1] at hr
      obtain ⟨rfl, rfl⟩ := Prod.mk.inj hr
      have d1b : decide (b < 48) = true := decide_eq_true d1
      clear hr d1;go_wp2
      go_ret2
      exact ⟨rfl, below_alloc (Below.refl _ _) _⟩
     rw [if_neg d1] at hr
     have d1b : decide (b < 48) = false := decide_eq_false d1
     by_cases d2 : b > 57
     ·rw [if_pos d2] at hr
      obtain ⟨rfl, rfl⟩ := Prod.mk.inj hr
      have d2b : decide (57 < b) = true := decide_eq_true d2
      clear hr d1 d2;go_wp2
      go_ret2
      exact ⟨rfl, below_alloc (Below.refl _ _) _⟩
     rw [if_neg d2] at hr
     have d2b : decide (57 < b) = false := decide_eq_false d2
     have hd1 : 48 ≤ b := by omega
     have hd2 : b ≤ 57 := by omega
     have HR := Aside0.mk hr
     have HLT := Aside0.mk hlt
     clear hr d1 d2 hlt;go_wp2
     go_roundg k1
     case measure => omega
     case rel => exact ⟨j + 1, 10 * m + (b - 48), by first | rfl | (simp; done) | (simp [*]; done), ⟨by have := HJ.out; omega⟩, ⟨rfl⟩, ⟨by have h9 := HM.out.2; rw [Nat.pow_succ]; omega⟩, HR⟩
    ·have hnext := run_next_any (P := Tryd.prog) w a0 j 0 hlt
     have hh := (decode_high a0 j hlt (by omega)).1
     have hle := decode_le a0 j
     have hr2 : ((0 : Int), false) = (r1, r2) := by
      rw [if_neg (by omega), if_pos (by omega)] at hr; exact hr
     obtain ⟨rfl, rfl⟩ := Prod.mk.inj hr2
     clear hr hr2 hb;generalize hg : (((Utf8.decode a0 j).1 : Nat) : Int) = b at hnext
     have d1b : decide (b < 48) = false := decide_eq_false (by omega)
     have d2b : decide (57 < b) = true := decide_eq_true (by omega)
     clear hg hh hle;go_wp2
     go_ret2
     exact ⟨rfl, below_alloc (Below.refl _ _) _⟩
def strings_Cut.f (a0 : ByteArray) (a1 : ByteArray) : Option (ByteArray × ByteArray × Bool) := if a0.size < 4294967281 then some (⟨(Lib.cut a0.data.toList a1.data.toList).1.toArray⟩, ⟨(Lib.cut a0.data.toList a1.data.toList).2.1.toArray⟩, (Lib.cut a0.data.toList a1.data.toList).2.2) else none
theorem strings_Cut.calls (a0 : ByteArray) (a1 : ByteArray) (r1 : ByteArray) (r2 : ByteArray) (r3 : Bool) (w : World) (hshp : Shp w) (h : strings_Cut.f a0 a1 = some (r1, r2, r3)) :
  Calls Tryd.prog 36 #[.string a0, .string a1] w fun e w' => e = .returned (.tuple #[.string r1, .string r2, .bool r3]) ∧ Drawn0 w w' := by
 unfold strings_Cut.f at h
 by_cases hs : a0.size < 4294967281
 ·rw [if_pos hs] at h
  simp only [Option.some.injEq, Prod.mk.injEq] at h
  obtain ⟨rfl, rfl, rfl⟩ := h
  obtain ⟨m, hm⟩ := hshp.cell
  exact (Tryd.strings_Cut a0 a1 m w hs hm).mono fun e w' ⟨he, hw⟩ => ⟨he, ⟨hw⟩⟩
 ·rw [if_neg hs] at h; cases h
mutual
def graphtext_line.j0 : Nat → List (S41) → List ByteArray → Bool → Option (Int × (List (S41)) × Bool)
 | 0, _, _, _ => none
 | k + 1, x3, x5, x25 => if x25 = true then (some (0, ([] : List (S41)), false)) else (if 1 < (x5.length : Int) then ((graphtext_number.f (rdOf ByteArray.empty x5 1)).bind fun bt108 => (if bt108.2 = true then (if 2 ≤ (x5.length : Int) then ((some (x5.drop 2 : List ByteArray)).bind fun y110 => (graphtext_line.l0 k bt108.1 x3 y110 (y110.length : Int) 0)) else (none)) else (some (0, ([] : List (S41)), false)))) else (none))
def graphtext_line.l0 : Nat → Int → List (S41) → List ByteArray → Int → Int → Option (Int × (List (S41)) × Bool)
 | 0, _, _, _, _, _ => none
 | k + 1, x2, x3, x36, x37, x38 => if x38 < x37 then (if 0 ≤ x38 then (if x38 < (x36.length : Int) then ((strings_Cut.f (rdOf ByteArray.empty x36 x38) (⟨#[47]⟩ : ByteArray)).bind fun bt115 => ((graphtext_number.f bt115.1).bind fun bt118 => ((graphtext_number.f bt115.2.1).bind fun bt120 => (if bt115.2.2 = true then (if bt118.2 = true then (if bt120.2 = true then (if x3.length < 8796093022208 then (graphtext_line.l0 k x2 (x3 ++ [(⟨bt118.1, bt120.1⟩ : S41)]) x36 x37 (wrap64 (x38 + 1))) else (none)) else (some (0, ([] : List (S41)), false))) else (some (0, ([] : List (S41)), false))) else (some (0, ([] : List (S41)), false)))))) else (none)) else (none)) else (some (x2, x3, true))
end
def graphtext_line.f (k : Nat) (a0 : ByteArray) : Option (Int × (List (S41)) × Bool) := (strings_Split.f a0 (⟨#[32]⟩ : ByteArray)).bind fun t103 => (if (t103.length : Int) < 2 then (graphtext_line.j0 k ([] : List (S41)) t103 true) else (if 0 < (t103.length : Int) then (graphtext_line.j0 k ([] : List (S41)) t103 ((rdOf ByteArray.empty t103 0).toList != ([110, 111, 100, 101] : List UInt8))) else (none)))
set_option maxHeartbeats 6000000 in
set_option maxRecDepth 100000 in
theorem graphtext_line.calls (k : Nat) (a0 : ByteArray) (r1 : Int) (r2 : List (S41)) (r3 : Bool) (w : World) (hshp : Shp w) (h : graphtext_line.f k a0 = some (r1, r2, r3)) :
  Calls Tryd.prog 21 #[.string a0] w fun e w' => ∃ v1_ : Value, e = .returned (.tuple #[.int .i64 r1, v1_, .bool r3]) ∧ Kd.R k41 41 w' w.heap.size (fun _ => True) v1_ r2 ∧ Below w.heap.size w w' := by
 have hu41 := Tryd.underlying41
 have HSHP := Aside0.mk hshp
 clear hshp;have HB := Aside0.mk (Below.refl w.heap.size w)
 have H : ((strings_Split.f a0 (⟨#[32]⟩ : ByteArray)).bind fun t103 => (if (t103.length : Int) < 2 then (graphtext_line.j0 k ([] : List (S41)) t103 true) else (if 0 < (t103.length : Int) then (graphtext_line.j0 k ([] : List (S41)) t103 ((rdOf ByteArray.empty t103 0).toList != ([110, 111, 100, 101] : List UInt8))) else (none)))) = some (r1, r2, r3) := h
 clear h;replace H := Option.bind_eq_some_iff.mp H
 obtain ⟨t103, A20, H⟩ := H
 replace H : (if (t103.length : Int) < 2 then (graphtext_line.j0 k ([] : List (S41)) t103 true) else (if 0 < (t103.length : Int) then (graphtext_line.j0 k ([] : List (S41)) t103 ((rdOf ByteArray.empty t103 0).toList != ([110, 111, 100, 101] : List UInt8))) else (none))) = some (r1, r2, r3) := H
 have A2 := Aside0.mk A20
 clear A20;have HC3 := Aside0.mk H
 clear H;go_enter Tryd.func21, Tryd.ntmps21
 go_upto_region 2 with (first | ((with_reducible refine gate_callee (f := 19) rfl ?_); refine goesL_ (some 16) rfl rfl Tryd.func19 (by kernel_rfl) rfl #[.string a0, .string (⟨#[32]⟩ : ByteArray)] rfl (by (try simp only [List.map_toArray, List.map_cons, List.map_nil]); first | done | rfl | (simp only [List.length_drop, List.length_take]; rfl)) ?_; (with_reducible refine (strings_Split.calls a0 (⟨#[32]⟩ : ByteArray) t103 _ ?side1 A2.out).mono ?_); (case side1 => first | ((with_reducible repeat (first | exact HSHP.out | refine Shp.alloc ?_ _ | refine Shp.drewN ?_ _ | refine Shp.drew ?_)); done) | (with_reducible refine Shp.below HSHP.out ?_; repeat (first | (with_reducible first | exact HB.out | apply below_alloc | apply pw_below_drewN | apply below_drew1) | exact HB.out))); rintro e w4 ⟨v104, rfl, ho0, hb⟩; refine ⟨_, rfl, ?_⟩; have n0_ := Aside0.mk (Kd.R_lower ho0 (below_size (by repeat (first | (with_reducible first | exact HB.out | apply below_alloc | apply pw_below_drewN | apply below_drew1) | exact HB.out)))); have n1_ := Aside0.mk (below_step (by repeat (first | (with_reducible first | exact HB.out | apply below_alloc | apply pw_below_drewN | apply below_drew1) | exact HB.out)) hb); clear HB; have HO105 := n0_; have HB := n1_; clear n0_ n1_; (try clear hb); (try clear hb2); (try clear hk); (try clear hi); (try clear ho0)))
 (try simp only [Act.put, List.setIfInBounds_toArray, List.set_cons_zero, List.set_cons_succ])
 go_cut [25] (fun v25 wc => ∃ (kq : Nat) (x25_2 : Bool), v25 = .bool x25_2 ∧ Aside0 (graphtext_line.j0 kq ([] : List (S41)) t103 x25_2 = some (r1, r2, r3)) ∧ Aside0 (kq ≤ k) ∧ Aside0 (Kd.R k41 41 wc w.heap.size (fun _ => True) (.slice none 0 0) ([] : List (S41))) ∧ Aside0 (Kd.R Kd.string 9 wc w.heap.size (fun _ => True) v104 t103) ∧ Aside0 (Below w.heap.size w wc))
 case first =>
  have H := HC3.out
  clear HC3;by_cases c5 : (t103.length : Int) < 2
  ·rw [if_pos c5] at H
   have c5b0 : decide ((t103.length : Int) < 2) = true := decide_eq_true c5
   have c5b1 : decide (t103.length < 2) = true := decide_eq_true (by omega)
   clear c5;(first | rw [c5b0] | (simp only [i64_w, i32_w]; rw [c5b0]) | skip)
   have H' := Aside0.mk H
   clear H;obtain ⟨Ao6, co6, eo6⟩ := Kd.R_slice HO105.out
   subst eo6;go_wp2
   go_meet
   case rel => exact ⟨_, (true), (by first | rfl | (simp; done) | (simp [*]; done)), H', ⟨by first | omega | exact Nat.le_refl _⟩, ⟨by first | exact Kd.R_nil _ _ _ _ _ | exact Kd.N_nil _ _ _ _ _ | exact Kd.V_nil _ _ _ _ _ | exact Kd.Q_nil _ _ _ _ _ | exact Kd.S_nil _ _ _ _ _⟩, ⟨by (with_reducible repeat (first | apply Kd.R_alloc | apply Kd.R_drewN | apply Kd.R_drew)); exact HO105.out⟩, ⟨by repeat (first | (with_reducible first | exact HB.out | apply below_alloc | apply pw_below_drewN | apply below_drew1) | exact HB.out)⟩⟩
  ·rw [if_neg c5] at H
   have c5b0 : decide ((t103.length : Int) < 2) = false := decide_eq_false c5
   have c5b1 : decide (t103.length < 2) = false := decide_eq_false (by omega)
   clear c5;(first | rw [c5b0] | (simp only [i64_w, i32_w]; rw [c5b0]) | skip)
   by_cases c7 : 0 < (t103.length : Int)
   ·rw [if_pos c7] at H
    have c7b0 : decide (0 < (t103.length : Int)) = true := decide_eq_true c7
    have c7b1 : decide (0 < t103.length) = true := decide_eq_true (by omega)
    clear c7;have H' := Aside0.mk H
    clear H;obtain ⟨Ao8, co8, eo8⟩ := Kd.R_slice HO105.out
    subst eo8;have p106 : 0 ≤ (0 : Int) := (by omega)
    have q106 : 0 < (t103.length : Int) := of_decide_eq_true (by first | (with_reducible assumption) | assumption)
    obtain ⟨ad106, e106, hx106_0⟩ := Kd.at_string (Kd.R_reads' HO105.out).2.2 0 p106 q106
    cases e106;have qi106 : (0 < t103.length) = True := eq_true (by omega)
    (try rw [show ((0 : Int)).toNat = 0 from rfl] at hx106_0)
    (try rw [Addr.add_zero'] at hx106_0)
    replace p106 := eq_true p106;replace q106 := eq_true q106;go_wp2
    go_meet
    case rel => exact ⟨_, (((rdOf ByteArray.empty t103 0).toList != ([110, 111, 100, 101] : List UInt8))), (by first | rfl | (simp; done) | (simp [*]; done)), H', ⟨by first | omega | exact Nat.le_refl _⟩, ⟨by first | exact Kd.R_nil _ _ _ _ _ | exact Kd.N_nil _ _ _ _ _ | exact Kd.V_nil _ _ _ _ _ | exact Kd.Q_nil _ _ _ _ _ | exact Kd.S_nil _ _ _ _ _⟩, ⟨by (with_reducible repeat (first | apply Kd.R_alloc | apply Kd.R_drewN | apply Kd.R_drew)); exact HO105.out⟩, ⟨by repeat (first | (with_reducible first | exact HB.out | apply below_alloc | apply pw_below_drewN | apply below_drew1) | exact HB.out)⟩⟩
   ·rw [if_neg c7] at H
    exact absurd H (by simp)
 case rest =>
  clear HC3;obtain ⟨kq, x25_2, rfl, HA, HJ2, HO_3, HO_5, HB⟩ := hcut
  cases kq with
  | zero => exact absurd HA.out (by simp [graphtext_line.j0])
  | succ kj2 =>
   have H := HA.out
   clear HA;simp only [graphtext_line.j0] at H
   by_cases c9 : x25_2 = true
   ·subst c9;have H1 : (some (0, ([] : List (S41)), false)) = some (r1, r2, r3) := by rw [if_pos rfl] at H; exact H
    clear H;have H := H1
    clear H1;simp only [Option.some.injEq, Prod.mk.injEq] at H
    obtain ⟨rfl, rfl, rfl⟩ := H
    go_wp2
    go_ret3
    exact ⟨_, by first | rfl | (simp [errW_none, errW_some] <;> rfl) | (simp [*, errW_none, errW_some] <;> rfl), by first | exact Kd.R_nil _ _ _ _ _ | exact Kd.N_nil _ _ _ _ _ | exact Kd.V_nil _ _ _ _ _ | exact Kd.Q_nil _ _ _ _ _ | exact Kd.S_nil _ _ _ _ _, by repeat (first | (with_reducible first | exact HB.out | apply below_alloc | apply pw_below_drewN | apply below_drew1) | exact HB.out)⟩
   ·replace c9 := Bool.eq_false_iff.mpr c9
    subst c9;have H1 : (if 1 < (t103.length : Int) then ((graphtext_number.f (rdOf ByteArray.empty t103 1)).bind fun bt108 => (if bt108.2 = true then (if 2 ≤ (t103.length : Int) then ((some (t103.drop 2 : List ByteArray)).bind fun y110 => (graphtext_line.l0 kj2 bt108.1 ([] : List (S41)) y110 (y110.length : Int) 0)) else (none)) else (some (0, ([] : List (S41)), false)))) else (none)) = some (r1, r2, r3) := by rw [if_neg (show ¬ (false = true) by decide)] at H; exact H
    clear H;have H := H1
    clear H1;by_cases c10 : 1 < (t103.length : Int)
    ·rw [if_pos c10] at H
     have c10b0 : decide (1 < (t103.length : Int)) = true := decide_eq_true c10
     have c10b1 : decide (1 < t103.length) = true := decide_eq_true (by omega)
     clear c10;replace H := Option.bind_eq_some_iff.mp H
     obtain ⟨⟨t108, t109⟩, A110, H⟩ := H
     replace H : (if t109 = true then (if 2 ≤ (t103.length : Int) then ((some (t103.drop 2 : List ByteArray)).bind fun y110 => (graphtext_line.l0 kj2 t108 ([] : List (S41)) y110 (y110.length : Int) 0)) else (none)) else (some (0, ([] : List (S41)), false))) = some (r1, r2, r3) := H
     have A11 := Aside0.mk A110
     clear A110;by_cases c12 : t109 = true
     ·subst c12;have H1 : (if 2 ≤ (t103.length : Int) then ((some (t103.drop 2 : List ByteArray)).bind fun y110 => (graphtext_line.l0 kj2 t108 ([] : List (S41)) y110 (y110.length : Int) 0)) else (none)) = some (r1, r2, r3) := by rw [if_pos rfl] at H; exact H
      clear H;have H := H1
      clear H1;by_cases c13 : 2 ≤ (t103.length : Int)
      ·rw [if_pos c13] at H
       have c13b0 := eq_true c13
       have c13b1 : decide (2 ≤ (t103.length : Int)) = true := decide_eq_true c13
       clear c13;obtain ⟨y110, hy110⟩ : ∃ y_ : List ByteArray, y_ = (t103.drop 2) := ⟨_, rfl⟩
       replace H : (graphtext_line.l0 kj2 t108 ([] : List (S41)) y110 (y110.length : Int) 0) = some (r1, r2, r3) := by first | (rw [hy110]; with_reducible exact H) | (have H2_ := (Option.bind_some _ _).symm.trans H; rw [hy110]; with_reducible exact H2_) | (have H2_ := (Option.bind_some _ _).symm.trans H; with_reducible exact H2_) | with_reducible exact H | (rw [hy110]; exact H) | exact H
       have Ny110 := Aside0.mk hy110
       clear hy110;have H' := Aside0.mk H
       clear H;obtain ⟨Ao14, co14, eo14⟩ := Kd.R_slice HO_5.out
       subst eo14;have p107 : 0 ≤ (1 : Int) := (by omega)
       have q107 : 1 < (t103.length : Int) := of_decide_eq_true (by first | (with_reducible assumption) | assumption)
       obtain ⟨ad107, e107, hx107_0⟩ := Kd.at_string (Kd.R_reads' HO_5.out).2.2 1 p107 q107
       cases e107;(try simp only [show (1 : Int).toNat = 1 from rfl, Nat.reduceMul, Nat.reduceEqDiff, Go.Addr.add, ↓reduceIte] at hx107_0)
       have qi107 : (1 < t103.length) = True := eq_true (by omega)
       (try rw [show ((1 : Int)).toNat = 1 from rfl] at hx107_0)
       replace p107 := eq_true p107;replace q107 := eq_true q107
       go_wp2_with (first | ((with_reducible refine gate_callee (f := 35) rfl ?_); refine goesL_ (some 30) rfl rfl Tryd.func35 (by kernel_rfl) rfl #[.string (rdOf ByteArray.empty t103 1)] rfl (by (try simp only [List.map_toArray, List.map_cons, List.map_nil]); first | done | rfl | (simp only [List.length_drop, List.length_take]; rfl)) ?_; (with_reducible refine (graphtext_number.calls (rdOf ByteArray.empty t103 1) t108 true _ A11.out).mono ?_); rintro e w15 ⟨rfl, hb⟩; refine ⟨_, rfl, ?_⟩; have n0_ := Aside0.mk (Kd.R_below (by (with_reducible repeat (first | apply Kd.R_alloc | apply Kd.R_drewN | apply Kd.R_drew)); exact HO_3.out) hb); have n1_ := Aside0.mk (Kd.R_below (by (with_reducible repeat (first | apply Kd.R_alloc | apply Kd.R_drewN | apply Kd.R_drew)); exact HO_5.out) hb); have n2_ := Aside0.mk (below_step (by repeat (first | (with_reducible first | exact HB.out | apply below_alloc | apply pw_below_drewN | apply below_drew1) | exact HB.out)) hb); clear HO_3; clear HO_5; clear HB; have HO_3 := n0_; have HO_5 := n1_; have HB := n2_; clear n0_ n1_ n2_; (try clear hb); (try clear hb2); (try clear hk); (try clear hi); have q16 : (2 : Int) ≤ ((t103.length : Int) : Int) := of_decide_eq_true (by first | (with_reducible assumption) | assumption); obtain ⟨i016, hi016, _, hsz16, _⟩ := info_parts info9; have hroom16 : t103.length ≤ co14 := (Kd.R_reads' HO_5.out).2.1; have hC16 : Kd.C Kd.string _ (some ad107) t103.length t103 := (Kd.R_reads' HO_5.out).2.2; have hcut16 := cut_from (P := Tryd.prog) 35 9 .i64 Tryd.underlying35 hi016 1 hsz16 (some ad107) t103.length co14 2 (by omega) q16; have hr16 := Kd.C_drop (m := (2 : Int).toNat) (c := co14) hC16 (by omega) hroom16; obtain ⟨A16, hA16⟩ : ∃ A1, A1 = (if co14 = (2 : Int).toNat then (some ad107) else ((some ad107) : Option Addr).map (·.add ((2 : Int).toNat * 1))) := ⟨_, rfl⟩; obtain ⟨c16, hc16⟩ : ∃ c1, c1 = co14 - (2 : Int).toNat := ⟨_, rfl⟩; have hy16 : y110.length = t103.length - (2 : Int).toNat := (by rw [Ny110.out, List.length_drop] <;> omega); rw [show (t103).drop (2 : Int).toNat = y110 from Ny110.out.symm] at hr16; replace hr16 : Kd.C Kd.string _ A16 y110.length y110 := (by rw [hA16]; exact hr16); rw [← hy16, ← hA16, ← hc16] at hcut16; have HR113 := Aside0.mk hr16; have HC113 := Aside0.mk (show y110.length ≤ c16 from by rw [hy16, hc16]; exact Nat.sub_le_sub_right hroom16 _); clear hr16 hC16 hroom16 hi016 hsz16 hc16; have KY16 := Aside0.mk hy16; have KA16 := Aside0.mk hA16; clear hy16 hA16; have KL16 := Aside0.mk (show 2 ≤ t103.length from by omega); replace q16 := eq_true q16))
       have HBW := HB
       have HS2 := Aside0.mk (Shp.below HSHP.out HB.out)
       clear HB HSHP;have HSHP := HS2
       clear HS2;have HB := Aside0.mk (Below.refl w15.heap.size w15)
       go_loopg [2, 3, 38] kj2 (fun kq v2 v3 v38 w' => ∃ (x2_2 : Int) (x3_2 : List (S41)) (x38_2 : Int), v2 = .int .i64 x2_2 ∧ v38 = .int .i64 x38_2 ∧ Aside0 (graphtext_line.l0 kq x2_2 x3_2 y110 (y110.length : Int) x38_2 = some (r1, r2, r3)) ∧ Aside0 (kq ≤ kj2) ∧ Aside0 (Kd.R k41 41 w' w15.heap.size (fun _ => True) v3 x3_2) ∧ Aside0 (Below w15.heap.size w15 w'))
       case atStart => exact ⟨(t108), (([] : List (S41))), (0), (by first | rfl | (simp; done) | (simp [*]; done)), (by first | rfl | (simp; done) | (simp [*]; done)), H', ⟨Nat.le_refl _⟩, ⟨Kd.R_nil _ _ _ _ _⟩, ⟨by repeat (first | (with_reducible first | exact HB.out | apply below_alloc | apply pw_below_drewN | apply below_drew1) | exact HB.out)⟩⟩
       case round =>
        clear H';try clear c1
        try clear c9
        try clear c10
        try clear c10b0
        try clear c10b1
        try clear c12
        try clear c13
        try clear c13b0
        try clear c13b1
        try clear c16
        try clear q16
        try clear hx107_0
        try clear p107
        try clear q107
        try clear q16
        obtain ⟨x2_2, x3_2, x38_2, rfl, rfl, HA, HK2, HO_3, HB⟩ := hrel
        cases gk with
        | zero => exact absurd HA.out (by simp [graphtext_line.l0])
        | succ k2 =>
         have H := HA.out
         clear HA;simp only [graphtext_line.l0] at H
         by_cases c17 : x38_2 < (y110.length : Int)
         ·rw [if_pos c17] at H
          have c17b0 : decide (x38_2 < (y110.length : Int)) = true := decide_eq_true c17
          clear c17;by_cases c18 : 0 ≤ x38_2
          ·rw [if_pos c18] at H
           have c18b0 : decide (0 ≤ x38_2) = true := decide_eq_true c18
           clear c18;by_cases c19 : x38_2 < (y110.length : Int)
           ·rw [if_pos c19] at H
            have c19b0 : decide (x38_2 < (y110.length : Int)) = true := decide_eq_true c19
            clear c19;replace H := Option.bind_eq_some_iff.mp H
            obtain ⟨⟨t115, t116, t117⟩, A200, H⟩ := H
            replace H : ((graphtext_number.f t115).bind fun bt118 => ((graphtext_number.f t116).bind fun bt120 => (if t117 = true then (if bt118.2 = true then (if bt120.2 = true then (if x3_2.length < 8796093022208 then (graphtext_line.l0 k2 x2_2 (x3_2 ++ [(⟨bt118.1, bt120.1⟩ : S41)]) y110 (y110.length : Int) (wrap64 (x38_2 + 1))) else (none)) else (some (0, ([] : List (S41)), false))) else (some (0, ([] : List (S41)), false))) else (some (0, ([] : List (S41)), false))))) = some (r1, r2, r3) := H
            have A20 := Aside0.mk A200
            clear A200;replace H := Option.bind_eq_some_iff.mp H
            obtain ⟨⟨t118, t119⟩, A210, H⟩ := H
            replace H : ((graphtext_number.f t116).bind fun bt120 => (if t117 = true then (if t119 = true then (if bt120.2 = true then (if x3_2.length < 8796093022208 then (graphtext_line.l0 k2 x2_2 (x3_2 ++ [(⟨t118, bt120.1⟩ : S41)]) y110 (y110.length : Int) (wrap64 (x38_2 + 1))) else (none)) else (some (0, ([] : List (S41)), false))) else (some (0, ([] : List (S41)), false))) else (some (0, ([] : List (S41)), false)))) = some (r1, r2, r3) := H
            have A21 := Aside0.mk A210
            clear A210;replace H := Option.bind_eq_some_iff.mp H
            obtain ⟨⟨t120, t121⟩, A220, H⟩ := H
            replace H : (if t117 = true then (if t119 = true then (if t121 = true then (if x3_2.length < 8796093022208 then (graphtext_line.l0 k2 x2_2 (x3_2 ++ [(⟨t118, t120⟩ : S41)]) y110 (y110.length : Int) (wrap64 (x38_2 + 1))) else (none)) else (some (0, ([] : List (S41)), false))) else (some (0, ([] : List (S41)), false))) else (some (0, ([] : List (S41)), false))) = some (r1, r2, r3) := H
            have A22 := Aside0.mk A220
            clear A220;by_cases c23 : t117 = true
            ·subst c23;have H1 : (if t119 = true then (if t121 = true then (if x3_2.length < 8796093022208 then (graphtext_line.l0 k2 x2_2 (x3_2 ++ [(⟨t118, t120⟩ : S41)]) y110 (y110.length : Int) (wrap64 (x38_2 + 1))) else (none)) else (some (0, ([] : List (S41)), false))) else (some (0, ([] : List (S41)), false))) = some (r1, r2, r3) := by rw [if_pos rfl] at H; exact H
             clear H;have H := H1
             clear H1;by_cases c24 : t119 = true
             ·subst c24;have H1 : (if t121 = true then (if x3_2.length < 8796093022208 then (graphtext_line.l0 k2 x2_2 (x3_2 ++ [(⟨t118, t120⟩ : S41)]) y110 (y110.length : Int) (wrap64 (x38_2 + 1))) else (none)) else (some (0, ([] : List (S41)), false))) = some (r1, r2, r3) := by rw [if_pos rfl] at H; exact H
              clear H;have H := H1
              clear H1;by_cases c25 : t121 = true
              ·subst c25;have H1 : (if x3_2.length < 8796093022208 then (graphtext_line.l0 k2 x2_2 (x3_2 ++ [(⟨t118, t120⟩ : S41)]) y110 (y110.length : Int) (wrap64 (x38_2 + 1))) else (none)) = some (r1, r2, r3) := by rw [if_pos rfl] at H; exact H
               clear H;have H := H1
               clear H1;by_cases c26 : x3_2.length < 8796093022208
               ·rw [if_pos c26] at H
                have LMc26 := Aside0.mk c26
                clear c26;obtain ⟨y122, hy122⟩ : ∃ y_ : List (S41), y_ = (x3_2 ++ [(⟨t118, t120⟩ : S41)]) := ⟨_, rfl⟩
                replace H : (graphtext_line.l0 k2 x2_2 y122 y110 (y110.length : Int) (wrap64 (x38_2 + 1))) = some (r1, r2, r3) := by first | (rw [hy122]; with_reducible exact H) | (have H2_ := (Option.bind_some _ _).symm.trans H; rw [hy122]; with_reducible exact H2_) | (have H2_ := (Option.bind_some _ _).symm.trans H; with_reducible exact H2_) | with_reducible exact H | (rw [hy122]; exact H) | exact H
                have Ny122 := Aside0.mk hy122
                clear hy122;have H' := Aside0.mk H
                clear H;have p114 : 0 ≤ (x38_2 : Int) := of_decide_eq_true (by first | (with_reducible assumption) | assumption)
                have q114 : x38_2 < (y110.length : Int) := of_decide_eq_true (by first | (with_reducible assumption) | assumption)
                obtain ⟨ad114, e114, hx114_0⟩ := Kd.at_string HR113.out x38_2 p114 q114
                cases e114;replace hx114_0 := (HB.out.cell (World.block_lt_of_cell? w15 _ hx114_0)).trans hx114_0
                replace p114 := eq_true p114;replace q114 := eq_true q114
                go_wp2_with (first | ((with_reducible refine gate_callee (f := 36) rfl ?_); refine goesL_ (some 44) rfl rfl Tryd.func36 (by kernel_rfl) rfl #[.string (rdOf ByteArray.empty y110 x38_2), .string (⟨#[47]⟩ : ByteArray)] rfl (by (try simp only [List.map_toArray, List.map_cons, List.map_nil]); first | done | rfl | (simp only [List.length_drop, List.length_take]; rfl)) ?_; (with_reducible refine (strings_Cut.calls (rdOf ByteArray.empty y110 x38_2) (⟨#[47]⟩ : ByteArray) t115 t116 true _ ?side1 A20.out).mono ?_); (case side1 => first | ((with_reducible repeat (first | exact HSHP.out | refine Shp.alloc ?_ _ | refine Shp.drewN ?_ _ | refine Shp.drew ?_)); done) | (with_reducible refine Shp.below HSHP.out ?_; repeat (first | (with_reducible first | exact HB.out | apply below_alloc | apply pw_below_drewN | apply below_drew1) | exact HB.out))); rintro e w' ⟨rfl, ⟨nd, rfl⟩⟩; refine ⟨_, rfl, ?_⟩) | ((with_reducible refine gate_callee (f := 35) rfl ?_); refine goesL_ (some 50) rfl rfl Tryd.func35 (by kernel_rfl) rfl #[.string t115] rfl (by (try simp only [List.map_toArray, List.map_cons, List.map_nil]); first | done | rfl | (simp only [List.length_drop, List.length_take]; rfl)) ?_; (with_reducible refine (graphtext_number.calls t115 t118 true _ A21.out).mono ?_); rintro e w27 ⟨rfl, hb⟩; refine ⟨_, rfl, ?_⟩; have n0_ := Aside0.mk (Kd.R_below (by (with_reducible repeat (first | apply Kd.R_alloc | apply Kd.R_drewN | apply Kd.R_drew)); exact HO_3.out) hb); have n1_ := Aside0.mk (below_step (by repeat (first | (with_reducible first | exact HB.out | apply below_alloc | apply pw_below_drewN | apply below_drew1) | exact HB.out)) hb); clear HO_3; clear HB; have HO_3 := n0_; have HB := n1_; clear n0_ n1_; (try clear hb); (try clear hb2); (try clear hk); (try clear hi)) | ((with_reducible refine gate_callee (f := 35) rfl ?_); refine goesL_ (some 55) rfl rfl Tryd.func35 (by kernel_rfl) rfl #[.string t116] rfl (by (try simp only [List.map_toArray, List.map_cons, List.map_nil]); first | done | rfl | (simp only [List.length_drop, List.length_take]; rfl)) ?_; (with_reducible refine (graphtext_number.calls t116 t120 true _ A22.out).mono ?_); rintro e w28 ⟨rfl, hb⟩; refine ⟨_, rfl, ?_⟩; have n0_ := Aside0.mk (Kd.R_below (by (with_reducible repeat (first | apply Kd.R_alloc | apply Kd.R_drewN | apply Kd.R_drew)); exact HO_3.out) hb); have n1_ := Aside0.mk (below_step (by repeat (first | (with_reducible first | exact HB.out | apply below_alloc | apply pw_below_drewN | apply below_drew1) | exact HB.out)) hb); clear HO_3; clear HB; have HO_3 := n0_; have HB := n1_; clear n0_ n1_; (try clear hb); (try clear hb2); (try clear hk); (try clear hi)) | ((with_reducible refine gate_builtin (b := .append) (xs := #[.tmp 68, .tmp 72]) rfl ?_); at_builtin; refine Kd.R_append k41 (w0 := w15) w15.heap.size rfl (.tmp 68) (.tmp 72) 39 41 (.agg #[(.int .i64 0), (.int .i64 0)]) 16 rfl Tryd.underlying39 info41 rfl (by decide) (by omega) u3 x3_2 (⟨t118, t120⟩ : S41) [.int .i64 t118, .int .i64 t120] (fun _ => True) (fun _ => False) rfl rfl ?aP (fun _ hk => hk.elim) ?aF ?aO ?aB ?aS ?aL ?_; (case aP => exact k41_mkM _ _ _ (⟨t118, t120⟩ : S41)); (case aB => exact (by repeat (first | (with_reducible first | exact HB.out | apply below_alloc | apply pw_below_drewN | apply below_drew1) | exact HB.out))); (case aF => exact (fun _ _ => trivial)); (case aO => exact (by (with_reducible repeat (first | apply Kd.R_alloc | apply Kd.R_drewN | apply Kd.R_drew)); exact HO_3.out)); (case aS => exact (below_size (by repeat (first | (with_reducible first | exact HB.out | apply below_alloc | apply pw_below_drewN | apply below_drew1) | exact HB.out)))); (case aL => have := LMc26.out; omega); intro v123 w29 ho hb hg hat; rw [← Ny122.out] at ho; have n0_ := Aside0.mk (hb); have n1_ := Aside0.mk (ho); clear HB; clear HO_3; have HB := n0_; have HO124 := n1_; clear n0_ n1_; clear ho hb hg hat))
                go_roundg k2
                case measure => have := HJ2.out; have := HK2.out; omega
                case rel => exact ⟨(x2_2), (y122), (wrap64 (x38_2 + 1)), (by first | rfl | (simp; done) | (simp [*]; done)), (by first | rfl | (simp; done) | (simp [*]; done)), H', ⟨by have := HJ2.out; have := HK2.out; omega⟩, ⟨by (with_reducible repeat (first | apply Kd.R_alloc | apply Kd.R_drewN | apply Kd.R_drew)); exact HO124.out⟩, ⟨by repeat (first | (with_reducible first | exact HB.out | apply below_alloc | apply pw_below_drewN | apply below_drew1) | exact HB.out)⟩⟩
               ·rw [if_neg c26] at H
                exact absurd H (by simp)
              ·replace c25 := Bool.eq_false_iff.mpr c25
               subst c25;have H1 : (some (0, ([] : List (S41)), false)) = some (r1, r2, r3) := by rw [if_neg (show ¬ (false = true) by decide)] at H; exact H
               clear H;have H := H1
               clear H1;simp only [Option.some.injEq, Prod.mk.injEq] at H
               obtain ⟨rfl, rfl, rfl⟩ := H
               have p114 : 0 ≤ (x38_2 : Int) := of_decide_eq_true (by first | (with_reducible assumption) | assumption)
               have q114 : x38_2 < (y110.length : Int) := of_decide_eq_true (by first | (with_reducible assumption) | assumption)
               obtain ⟨ad114, e114, hx114_0⟩ := Kd.at_string HR113.out x38_2 p114 q114
               cases e114;replace hx114_0 := (HB.out.cell (World.block_lt_of_cell? w15 _ hx114_0)).trans hx114_0
               replace p114 := eq_true p114;replace q114 := eq_true q114
               go_wp2_with (first | ((with_reducible refine gate_callee (f := 36) rfl ?_); refine goesL_ (some 44) rfl rfl Tryd.func36 (by kernel_rfl) rfl #[.string (rdOf ByteArray.empty y110 x38_2), .string (⟨#[47]⟩ : ByteArray)] rfl (by (try simp only [List.map_toArray, List.map_cons, List.map_nil]); first | done | rfl | (simp only [List.length_drop, List.length_take]; rfl)) ?_; (with_reducible refine (strings_Cut.calls (rdOf ByteArray.empty y110 x38_2) (⟨#[47]⟩ : ByteArray) t115 t116 true _ ?side1 A20.out).mono ?_); (case side1 => first | ((with_reducible repeat (first | exact HSHP.out | refine Shp.alloc ?_ _ | refine Shp.drewN ?_ _ | refine Shp.drew ?_)); done) | (with_reducible refine Shp.below HSHP.out ?_; repeat (first | (with_reducible first | exact HB.out | apply below_alloc | apply pw_below_drewN | apply below_drew1) | exact HB.out))); rintro e w' ⟨rfl, ⟨nd, rfl⟩⟩; refine ⟨_, rfl, ?_⟩) | ((with_reducible refine gate_callee (f := 35) rfl ?_); refine goesL_ (some 50) rfl rfl Tryd.func35 (by kernel_rfl) rfl #[.string t115] rfl (by (try simp only [List.map_toArray, List.map_cons, List.map_nil]); first | done | rfl | (simp only [List.length_drop, List.length_take]; rfl)) ?_; (with_reducible refine (graphtext_number.calls t115 t118 true _ A21.out).mono ?_); rintro e w30 ⟨rfl, hb⟩; refine ⟨_, rfl, ?_⟩; have n0_ := Aside0.mk (Kd.R_below (by (with_reducible repeat (first | apply Kd.R_alloc | apply Kd.R_drewN | apply Kd.R_drew)); exact HO_3.out) hb); have n1_ := Aside0.mk (below_step (by repeat (first | (with_reducible first | exact HB.out | apply below_alloc | apply pw_below_drewN | apply below_drew1) | exact HB.out)) hb); clear HO_3; clear HB; have HO_3 := n0_; have HB := n1_; clear n0_ n1_; (try clear hb); (try clear hb2); (try clear hk); (try clear hi)) | ((with_reducible refine gate_callee (f := 35) rfl ?_); refine goesL_ (some 55) rfl rfl Tryd.func35 (by kernel_rfl) rfl #[.string t116] rfl (by (try simp only [List.map_toArray, List.map_cons, List.map_nil]); first | done | rfl | (simp only [List.length_drop, List.length_take]; rfl)) ?_; (with_reducible refine (graphtext_number.calls t116 t120 false _ A22.out).mono ?_); rintro e w31 ⟨rfl, hb⟩; refine ⟨_, rfl, ?_⟩; have n0_ := Aside0.mk (Kd.R_below (by (with_reducible repeat (first | apply Kd.R_alloc | apply Kd.R_drewN | apply Kd.R_drew)); exact HO_3.out) hb); have n1_ := Aside0.mk (below_step (by repeat (first | (with_reducible first | exact HB.out | apply below_alloc | apply pw_below_drewN | apply below_drew1) | exact HB.out)) hb); clear HO_3; clear HB; have HO_3 := n0_; have HB := n1_; clear n0_ n1_; (try clear hb); (try clear hb2); (try clear hk); (try clear hi)))
               go_ret3
               exact ⟨_, by first | rfl | (simp [errW_none, errW_some] <;> rfl) | (simp [*, errW_none, errW_some] <;> rfl), by first | exact Kd.R_nil _ _ _ _ _ | exact Kd.N_nil _ _ _ _ _ | exact Kd.V_nil _ _ _ _ _ | exact Kd.Q_nil _ _ _ _ _ | exact Kd.S_nil _ _ _ _ _, below_step HBW.out (by repeat (first | (with_reducible first | exact HB.out | apply below_alloc | apply pw_below_drewN | apply below_drew1) | exact HB.out))⟩
             ·replace c24 := Bool.eq_false_iff.mpr c24
              subst c24;have H1 : (some (0, ([] : List (S41)), false)) = some (r1, r2, r3) := by rw [if_neg (show ¬ (false = true) by decide)] at H; exact H
              clear H;have H := H1
              clear H1;simp only [Option.some.injEq, Prod.mk.injEq] at H
              obtain ⟨rfl, rfl, rfl⟩ := H
              have p114 : 0 ≤ (x38_2 : Int) := of_decide_eq_true (by first | (with_reducible assumption) | assumption)
              have q114 : x38_2 < (y110.length : Int) := of_decide_eq_true (by first | (with_reducible assumption) | assumption)
              obtain ⟨ad114, e114, hx114_0⟩ := Kd.at_string HR113.out x38_2 p114 q114
              cases e114;replace hx114_0 := (HB.out.cell (World.block_lt_of_cell? w15 _ hx114_0)).trans hx114_0
              replace p114 := eq_true p114;replace q114 := eq_true q114
              go_wp2_with (first | ((with_reducible refine gate_callee (f := 36) rfl ?_); refine goesL_ (some 44) rfl rfl Tryd.func36 (by kernel_rfl) rfl #[.string (rdOf ByteArray.empty y110 x38_2), .string (⟨#[47]⟩ : ByteArray)] rfl (by (try simp only [List.map_toArray, List.map_cons, List.map_nil]); first | done | rfl | (simp only [List.length_drop, List.length_take]; rfl)) ?_; (with_reducible refine (strings_Cut.calls (rdOf ByteArray.empty y110 x38_2) (⟨#[47]⟩ : ByteArray) t115 t116 true _ ?side1 A20.out).mono ?_); (case side1 => first | ((with_reducible repeat (first | exact HSHP.out | refine Shp.alloc ?_ _ | refine Shp.drewN ?_ _ | refine Shp.drew ?_)); done) | (with_reducible refine Shp.below HSHP.out ?_; repeat (first | (with_reducible first | exact HB.out | apply below_alloc | apply pw_below_drewN | apply below_drew1) | exact HB.out))); rintro e w' ⟨rfl, ⟨nd, rfl⟩⟩; refine ⟨_, rfl, ?_⟩) | ((with_reducible refine gate_callee (f := 35) rfl ?_); refine goesL_ (some 50) rfl rfl Tryd.func35 (by kernel_rfl) rfl #[.string t115] rfl (by (try simp only [List.map_toArray, List.map_cons, List.map_nil]); first | done | rfl | (simp only [List.length_drop, List.length_take]; rfl)) ?_; (with_reducible refine (graphtext_number.calls t115 t118 false _ A21.out).mono ?_); rintro e w32 ⟨rfl, hb⟩; refine ⟨_, rfl, ?_⟩; have n0_ := Aside0.mk (Kd.R_below (by (with_reducible repeat (first | apply Kd.R_alloc | apply Kd.R_drewN | apply Kd.R_drew)); exact HO_3.out) hb); have n1_ := Aside0.mk (below_step (by repeat (first | (with_reducible first | exact HB.out | apply below_alloc | apply pw_below_drewN | apply below_drew1) | exact HB.out)) hb); clear HO_3; clear HB; have HO_3 := n0_; have HB := n1_; clear n0_ n1_; (try clear hb); (try clear hb2); (try clear hk); (try clear hi)) | ((with_reducible refine gate_callee (f := 35) rfl ?_); refine goesL_ (some 55) rfl rfl Tryd.func35 (by kernel_rfl) rfl #[.string t116] rfl (by (try simp only [List.map_toArray, List.map_cons, List.map_nil]); first | done | rfl | (simp only [List.length_drop, List.length_take]; rfl)) ?_; (with_reducible refine (graphtext_number.calls t116 t120 t121 _ A22.out).mono ?_); rintro e w33 ⟨rfl, hb⟩; refine ⟨_, rfl, ?_⟩; have n0_ := Aside0.mk (Kd.R_below (by (with_reducible repeat (first | apply Kd.R_alloc | apply Kd.R_drewN | apply Kd.R_drew)); exact HO_3.out) hb); have n1_ := Aside0.mk (below_step (by repeat (first | (with_reducible first | exact HB.out | apply below_alloc | apply pw_below_drewN | apply below_drew1) | exact HB.out)) hb); clear HO_3; clear HB; have HO_3 := n0_; have HB := n1_; clear n0_ n1_; (try clear hb); (try clear hb2); (try clear hk); (try clear hi)))
              go_ret3
              exact ⟨_, by first | rfl | (simp [errW_none, errW_some] <;> rfl) | (simp [*, errW_none, errW_some] <;> rfl), by first | exact Kd.R_nil _ _ _ _ _ | exact Kd.N_nil _ _ _ _ _ | exact Kd.V_nil _ _ _ _ _ | exact Kd.Q_nil _ _ _ _ _ | exact Kd.S_nil _ _ _ _ _, below_step HBW.out (by repeat (first | (with_reducible first | exact HB.out | apply below_alloc | apply pw_below_drewN | apply below_drew1) | exact HB.out))⟩
            ·replace c23 := Bool.eq_false_iff.mpr c23
             subst c23;have H1 : (some (0, ([] : List (S41)), false)) = some (r1, r2, r3) := by rw [if_neg (show ¬ (false = true) by decide)] at H; exact H
             clear H;have H := H1
             clear H1;simp only [Option.some.injEq, Prod.mk.injEq] at H
             obtain ⟨rfl, rfl, rfl⟩ := H
             have p114 : 0 ≤ (x38_2 : Int) := of_decide_eq_true (by first | (with_reducible assumption) | assumption)
             have q114 : x38_2 < (y110.length : Int) := of_decide_eq_true (by first | (with_reducible assumption) | assumption)
             obtain ⟨ad114, e114, hx114_0⟩ := Kd.at_string HR113.out x38_2 p114 q114
             cases e114;replace hx114_0 := (HB.out.cell (World.block_lt_of_cell? w15 _ hx114_0)).trans hx114_0
             replace p114 := eq_true p114;replace q114 := eq_true q114
             go_wp2_with (first | ((with_reducible refine gate_callee (f := 36) rfl ?_); refine goesL_ (some 44) rfl rfl Tryd.func36 (by kernel_rfl) rfl #[.string (rdOf ByteArray.empty y110 x38_2), .string (⟨#[47]⟩ : ByteArray)] rfl (by (try simp only [List.map_toArray, List.map_cons, List.map_nil]); first | done | rfl | (simp only [List.length_drop, List.length_take]; rfl)) ?_; (with_reducible refine (strings_Cut.calls (rdOf ByteArray.empty y110 x38_2) (⟨#[47]⟩ : ByteArray) t115 t116 false _ ?side1 A20.out).mono ?_); (case side1 => first | ((with_reducible repeat (first | exact HSHP.out | refine Shp.alloc ?_ _ | refine Shp.drewN ?_ _ | refine Shp.drew ?_)); done) | (with_reducible refine Shp.below HSHP.out ?_; repeat (first | (with_reducible first | exact HB.out | apply below_alloc | apply pw_below_drewN | apply below_drew1) | exact HB.out))); rintro e w' ⟨rfl, ⟨nd, rfl⟩⟩; refine ⟨_, rfl, ?_⟩) | ((with_reducible refine gate_callee (f := 35) rfl ?_); refine goesL_ (some 50) rfl rfl Tryd.func35 (by kernel_rfl) rfl #[.string t115] rfl (by (try simp only [List.map_toArray, List.map_cons, List.map_nil]); first | done | rfl | (simp only [List.length_drop, List.length_take]; rfl)) ?_; (with_reducible refine (graphtext_number.calls t115 t118 t119 _ A21.out).mono ?_); rintro e w34 ⟨rfl, hb⟩; refine ⟨_, rfl, ?_⟩; have n0_ := Aside0.mk (Kd.R_below (by (with_reducible repeat (first | apply Kd.R_alloc | apply Kd.R_drewN | apply Kd.R_drew)); exact HO_3.out) hb); have n1_ := Aside0.mk (below_step (by repeat (first | (with_reducible first | exact HB.out | apply below_alloc | apply pw_below_drewN | apply below_drew1) | exact HB.out)) hb); clear HO_3; clear HB; have HO_3 := n0_; have HB := n1_; clear n0_ n1_; (try clear hb); (try clear hb2); (try clear hk); (try clear hi)) | ((with_reducible refine gate_callee (f := 35) rfl ?_); refine goesL_ (some 55) rfl rfl Tryd.func35 (by kernel_rfl) rfl #[.string t116] rfl (by (try simp only [List.map_toArray, List.map_cons, List.map_nil]); first | done | rfl | (simp only [List.length_drop, List.length_take]; rfl)) ?_; (with_reducible refine (graphtext_number.calls t116 t120 t121 _ A22.out).mono ?_); rintro e w35 ⟨rfl, hb⟩; refine ⟨_, rfl, ?_⟩; have n0_ := Aside0.mk (Kd.R_below (by (with_reducible repeat (first | apply Kd.R_alloc | apply Kd.R_drewN | apply Kd.R_drew)); exact HO_3.out) hb); have n1_ := Aside0.mk (below_step (by repeat (first | (with_reducible first | exact HB.out | apply below_alloc | apply pw_below_drewN | apply below_drew1) | exact HB.out)) hb); clear HO_3; clear HB; have HO_3 := n0_; have HB := n1_; clear n0_ n1_; (try clear hb); (try clear hb2); (try clear hk); (try clear hi)))
             go_ret3
             exact ⟨_, by first | rfl | (simp [errW_none, errW_some] <;> rfl) | (simp [*, errW_none, errW_some] <;> rfl), by first | exact Kd.R_nil _ _ _ _ _ | exact Kd.N_nil _ _ _ _ _ | exact Kd.V_nil _ _ _ _ _ | exact Kd.Q_nil _ _ _ _ _ | exact Kd.S_nil _ _ _ _ _, below_step HBW.out (by repeat (first | (with_reducible first | exact HB.out | apply below_alloc | apply pw_below_drewN | apply below_drew1) | exact HB.out))⟩
           ·rw [if_neg c19] at H
            exact absurd H (by simp)
          ·rw [if_neg c18] at H
           exact absurd H (by simp)
         ·rw [if_neg c17] at H
          have c17b0 : decide (x38_2 < (y110.length : Int)) = false := decide_eq_false c17
          clear c17;simp only [Option.some.injEq, Prod.mk.injEq] at H
          obtain ⟨rfl, rfl, rfl⟩ := H
          go_wp2
          go_ret3
          exact ⟨_, by first | rfl | (simp [errW_none, errW_some] <;> rfl) | (simp [*, errW_none, errW_some] <;> rfl), Kd.R_lower (by (with_reducible repeat (first | apply Kd.R_alloc | apply Kd.R_drewN | apply Kd.R_drew)); exact HO_3.out) (below_size HBW.out), below_step HBW.out (by repeat (first | (with_reducible first | exact HB.out | apply below_alloc | apply pw_below_drewN | apply below_drew1) | exact HB.out))⟩
      ·rw [if_neg c13] at H
       exact absurd H (by simp)
     ·replace c12 := Bool.eq_false_iff.mpr c12
      subst c12;have H1 : (some (0, ([] : List (S41)), false)) = some (r1, r2, r3) := by rw [if_neg (show ¬ (false = true) by decide)] at H; exact H
      clear H;have H := H1
      clear H1;simp only [Option.some.injEq, Prod.mk.injEq] at H
      obtain ⟨rfl, rfl, rfl⟩ := H
      obtain ⟨Ao36, co36, eo36⟩ := Kd.R_slice HO_5.out
      subst eo36;have p107 : 0 ≤ (1 : Int) := (by omega)
      have q107 : 1 < (t103.length : Int) := of_decide_eq_true (by first | (with_reducible assumption) | assumption)
      obtain ⟨ad107, e107, hx107_0⟩ := Kd.at_string (Kd.R_reads' HO_5.out).2.2 1 p107 q107
      cases e107;(try simp only [show (1 : Int).toNat = 1 from rfl, Nat.reduceMul, Nat.reduceEqDiff, Go.Addr.add, ↓reduceIte] at hx107_0)
      have qi107 : (1 < t103.length) = True := eq_true (by omega)
      (try rw [show ((1 : Int)).toNat = 1 from rfl] at hx107_0)
      replace p107 := eq_true p107;replace q107 := eq_true q107
      go_wp2_with (first | ((with_reducible refine gate_callee (f := 35) rfl ?_); refine goesL_ (some 30) rfl rfl Tryd.func35 (by kernel_rfl) rfl #[.string (rdOf ByteArray.empty t103 1)] rfl (by (try simp only [List.map_toArray, List.map_cons, List.map_nil]); first | done | rfl | (simp only [List.length_drop, List.length_take]; rfl)) ?_; (with_reducible refine (graphtext_number.calls (rdOf ByteArray.empty t103 1) t108 false _ A11.out).mono ?_); rintro e w37 ⟨rfl, hb⟩; refine ⟨_, rfl, ?_⟩; have n0_ := Aside0.mk (Kd.R_below (by (with_reducible repeat (first | apply Kd.R_alloc | apply Kd.R_drewN | apply Kd.R_drew)); exact HO_3.out) hb); have n1_ := Aside0.mk (Kd.R_below (by (with_reducible repeat (first | apply Kd.R_alloc | apply Kd.R_drewN | apply Kd.R_drew)); exact HO_5.out) hb); have n2_ := Aside0.mk (below_step (by repeat (first | (with_reducible first | exact HB.out | apply below_alloc | apply pw_below_drewN | apply below_drew1) | exact HB.out)) hb); clear HO_3; clear HO_5; clear HB; have HO_3 := n0_; have HO_5 := n1_; have HB := n2_; clear n0_ n1_ n2_; (try clear hb); (try clear hb2); (try clear hk); (try clear hi)))
      go_ret3
      exact ⟨_, by first | rfl | (simp [errW_none, errW_some] <;> rfl) | (simp [*, errW_none, errW_some] <;> rfl), by first | exact Kd.R_nil _ _ _ _ _ | exact Kd.N_nil _ _ _ _ _ | exact Kd.V_nil _ _ _ _ _ | exact Kd.Q_nil _ _ _ _ _ | exact Kd.S_nil _ _ _ _ _, by repeat (first | (with_reducible first | exact HB.out | apply below_alloc | apply pw_below_drewN | apply below_drew1) | exact HB.out)⟩
    ·rw [if_neg c10] at H
     exact absurd H (by simp)
end Go.Proofs.YtinfejpkjddbiaaDoor.P
