/- Part of the proof of the law GraphtextWritesBack: P12. -/
import Derived.Test.YtinfejpkjddbiaaDoorGraphtextWritesBackP0
import Derived.Test.YtinfejpkjddbiaaDoorGraphtextWritesBackP11
namespace Go.Proofs.YtinfejpkjddbiaaDoor.P
open Go.RowKit Go.Proofs.YtinfejpkjddbiaaDoorW.PrintWords Go.Proofs.YtinfejpkjddbiaaDoorW.PrintLast Go.Proofs.YtinfejpkjddbiaaDoorW.PrintMore
attribute [local go_sem] max2_int min2_int max_two min_two max_three min_three max_four min_four
set_option linter.unusedVariables false
set_option linter.unusedSimpArgs false
mutual
def selfstabref02_node.j0 : Nat → List ByteArray → Bool → Option (Int × (List (S41)) × Bool)
 | 0, _, _ => none
 | k + 1, x5, x25 => if x25 = true then (some (0, ([] : List (S41)), false)) else (if 1 < (x5.length : Int) then ((selfstabref02_Number.f k (rdOf ByteArray.empty x5 1)).bind fun bt274 => (if bt274.2 = true then (selfstabref02_node.l0 k x5 bt274.1 ([] : List (S41)) 2) else (some (0, ([] : List (S41)), false)))) else (none))
def selfstabref02_node.l0 : Nat → List ByteArray → Int → List (S41) → Int → Option (Int × (List (S41)) × Bool)
 | 0, _, _, _, _ => none
 | k + 1, x5, x6, x8, x9 => if x9 < (x5.length : Int) then (if 0 ≤ x9 then ((selfstabref02_Split.f k (rdOf ByteArray.empty x5 x9) 47).bind fun t277 => (if (t277.length : Int) = 2 then (if 0 < (t277.length : Int) then ((selfstabref02_Number.f k (rdOf ByteArray.empty t277 0)).bind fun bt281 => (if 1 < (t277.length : Int) then ((selfstabref02_Number.f k (rdOf ByteArray.empty t277 1)).bind fun bt284 => (if bt281.2 = true then (if bt284.2 = true then (if x8.length < 8796093022208 then (selfstabref02_node.l0 k x5 x6 (x8 ++ [(⟨bt281.1, bt284.1⟩ : S41)]) (wrap64 (x9 + 1))) else (none)) else (some (0, ([] : List (S41)), false))) else (some (0, ([] : List (S41)), false)))) else (none))) else (none)) else (some (0, ([] : List (S41)), false)))) else (none)) else (some (x6, x8, true))
end
def selfstabref02_node.f (k : Nat) (a0 : ByteArray) : Option (Int × (List (S41)) × Bool) := (selfstabref02_Split.f k a0 32).bind fun t269 => (if (t269.length : Int) < 2 then (selfstabref02_node.j0 k t269 true) else (if 0 < (t269.length : Int) then (selfstabref02_node.j0 k t269 ((rdOf ByteArray.empty t269 0).toList != ([110, 111, 100, 101] : List UInt8))) else (none)))
set_option maxHeartbeats 6000000 in
set_option maxRecDepth 100000 in
theorem selfstabref02_node.calls (k : Nat) (a0 : ByteArray) (r1 : Int) (r2 : List (S41)) (r3 : Bool) (w : World) (h : selfstabref02_node.f k a0 = some (r1, r2, r3)) :
  Calls Tryd.prog 23 #[.string a0] w fun e w' => ∃ v1_ : Value, e = .returned (.tuple #[.int .i64 r1, v1_, .bool r3]) ∧ Kd.R k41 41 w' w.heap.size (fun _ => True) v1_ r2 ∧ Below w.heap.size w w' := by
 have hu41 := Tryd.underlying41
 have HB := Aside0.mk (Below.refl w.heap.size w)
 have H : ((selfstabref02_Split.f k a0 32).bind fun t269 => (if (t269.length : Int) < 2 then (selfstabref02_node.j0 k t269 true) else (if 0 < (t269.length : Int) then (selfstabref02_node.j0 k t269 ((rdOf ByteArray.empty t269 0).toList != ([110, 111, 100, 101] : List UInt8))) else (none)))) = some (r1, r2, r3) := h
 clear h;replace H := Option.bind_eq_some_iff.mp H
 obtain ⟨t269, A20, H⟩ := H
 replace H : (if (t269.length : Int) < 2 then (selfstabref02_node.j0 k t269 true) else (if 0 < (t269.length : Int) then (selfstabref02_node.j0 k t269 ((rdOf ByteArray.empty t269 0).toList != ([110, 111, 100, 101] : List UInt8))) else (none))) = some (r1, r2, r3) := H
 have A2 := Aside0.mk A20
 clear A20;have HC3 := Aside0.mk H
 clear H;go_enter Tryd.func23, Tryd.ntmps23
 go_upto_region 2 with (first | ((with_reducible refine gate_callee (f := 28) rfl ?_); refine goesL_ (some 16) rfl rfl Tryd.func28 (by kernel_rfl) rfl #[.string a0, .int .u8 32] rfl (by (try simp only [List.map_toArray, List.map_cons, List.map_nil]); first | done | rfl | (simp only [List.length_drop, List.length_take]; rfl)) ?_; (with_reducible refine (selfstabref02_Split.calls k a0 32 t269 _ A2.out).mono ?_); rintro e w4 ⟨v270, rfl, ho0, hb⟩; refine ⟨_, rfl, ?_⟩; have n0_ := Aside0.mk (Kd.R_lower ho0 (below_size (by repeat (first | (with_reducible first | exact HB.out | apply below_alloc | apply pw_below_drewN | apply below_drew1) | exact HB.out)))); have n1_ := Aside0.mk (below_step (by repeat (first | (with_reducible first | exact HB.out | apply below_alloc | apply pw_below_drewN | apply below_drew1) | exact HB.out)) hb); clear HB; have HO271 := n0_; have HB := n1_; clear n0_ n1_; (try clear hb); (try clear hb2); (try clear hk); (try clear hi); (try clear ho0)))
 (try simp only [Act.put, List.setIfInBounds_toArray, List.set_cons_zero, List.set_cons_succ])
 go_cut [25] (fun v25 wc => ∃ (kq : Nat) (x25_2 : Bool), v25 = .bool x25_2 ∧ Aside0 (selfstabref02_node.j0 kq t269 x25_2 = some (r1, r2, r3)) ∧ Aside0 (kq ≤ k) ∧ Aside0 (Kd.R Kd.string 9 wc w.heap.size (fun _ => True) v270 t269) ∧ Aside0 (Below w.heap.size w wc))
 case first =>
  have H := HC3.out
  clear HC3;by_cases c5 : (t269.length : Int) < 2
  ·rw [if_pos c5] at H
   have c5b0 : decide ((t269.length : Int) < 2) = true := decide_eq_true c5
   have c5b1 : decide (t269.length < 2) = true := decide_eq_true (by omega)
   clear c5;(first | rw [c5b0] | (simp only [i64_w, i32_w]; rw [c5b0]) | skip)
   have H' := Aside0.mk H
   clear H;obtain ⟨Ao6, co6, eo6⟩ := Kd.R_slice HO271.out
   subst eo6;go_wp2
   go_meet
   case rel => exact ⟨_, (true), (by first | rfl | (simp; done) | (simp [*]; done)), H', ⟨by first | omega | exact Nat.le_refl _⟩, ⟨by (with_reducible repeat (first | apply Kd.R_alloc | apply Kd.R_drewN | apply Kd.R_drew)); exact HO271.out⟩, ⟨by repeat (first | (with_reducible first | exact HB.out | apply below_alloc | apply pw_below_drewN | apply below_drew1) | exact HB.out)⟩⟩
  ·rw [if_neg c5] at H
   have c5b0 : decide ((t269.length : Int) < 2) = false := decide_eq_false c5
   have c5b1 : decide (t269.length < 2) = false := decide_eq_false (by omega)
   clear c5;(first | rw [c5b0] | (simp only [i64_w, i32_w]; rw [c5b0]) | skip)
   by_cases c7 : 0 < (t269.length : Int)
   ·rw [if_pos c7] at H
    have c7b0 : decide (0 < (t269.length : Int)) = true := decide_eq_true c7
    have c7b1 : decide (0 < t269.length) = true := decide_eq_true (by omega)
    clear c7;have H' := Aside0.mk H
    clear H;obtain ⟨Ao8, co8, eo8⟩ := Kd.R_slice HO271.out
    subst eo8;have p272 : 0 ≤ (0 : Int) := (by omega)
    have q272 : 0 < (t269.length : Int) := of_decide_eq_true (by first | (with_reducible assumption) | assumption)
    obtain ⟨ad272, e272, hx272_0⟩ := Kd.at_string (Kd.R_reads' HO271.out).2.2 0 p272 q272
    cases e272;have qi272 : (0 < t269.length) = True := eq_true (by omega)
    (try rw [show ((0 : Int)).toNat = 0 from rfl] at hx272_0)
    (try rw [Addr.add_zero'] at hx272_0)
    replace p272 := eq_true p272;replace q272 := eq_true q272;go_wp2
    go_meet
    case rel => exact ⟨_, (((rdOf ByteArray.empty t269 0).toList != ([110, 111, 100, 101] : List UInt8))), (by first | rfl | (simp; done) | (simp [*]; done)), H', ⟨by first | omega | exact Nat.le_refl _⟩, ⟨by (with_reducible repeat (first | apply Kd.R_alloc | apply Kd.R_drewN | apply Kd.R_drew)); exact HO271.out⟩, ⟨by repeat (first | (with_reducible first | exact HB.out | apply below_alloc | apply pw_below_drewN | apply below_drew1) | exact HB.out)⟩⟩
   ·rw [if_neg c7] at H
    exact absurd H (by simp)
 case rest =>
  clear HC3;obtain ⟨kq, x25_2, rfl, HA, HJ2, HO_5, HB⟩ := hcut
  cases kq with
  | zero => exact absurd HA.out (by simp [selfstabref02_node.j0])
  | succ kj2 =>
   have H := HA.out
   clear HA;simp only [selfstabref02_node.j0] at H
   by_cases c9 : x25_2 = true
   ·subst c9;have H1 : (some (0, ([] : List (S41)), false)) = some (r1, r2, r3) := by rw [if_pos rfl] at H; exact H
    clear H;have H := H1
    clear H1;simp only [Option.some.injEq, Prod.mk.injEq] at H
    obtain ⟨rfl, rfl, rfl⟩ := H
    go_wp2
    go_ret3
    exact ⟨_, by first | rfl | (simp [errW_none, errW_some] <;> rfl) | (simp [*, errW_none, errW_some] <;> rfl), by first | exact Kd.R_nil _ _ _ _ _ | exact Kd.N_nil _ _ _ _ _ | exact Kd.V_nil _ _ _ _ _ | exact Kd.Q_nil _ _ _ _ _ | exact Kd.S_nil _ _ _ _ _, by repeat (first | (with_reducible first | exact HB.out | apply below_alloc | apply pw_below_drewN | apply below_drew1) | exact HB.out)⟩
   ·replace c9 := Bool.eq_false_iff.mpr c9
    subst c9;have H1 : (if 1 < (t269.length : Int) then ((selfstabref02_Number.f kj2 (rdOf ByteArray.empty t269 1)).bind fun bt274 => (if bt274.2 = true then (selfstabref02_node.l0 kj2 t269 bt274.1 ([] : List (S41)) 2) else (some (0, ([] : List (S41)), false)))) else (none)) = some (r1, r2, r3) := by rw [if_neg (show ¬ (false = true) by decide)] at H; exact H
    clear H;have H := H1
    clear H1;by_cases c10 : 1 < (t269.length : Int)
    ·rw [if_pos c10] at H
     have c10b0 : decide (1 < (t269.length : Int)) = true := decide_eq_true c10
     have c10b1 : decide (1 < t269.length) = true := decide_eq_true (by omega)
     clear c10;replace H := Option.bind_eq_some_iff.mp H
     obtain ⟨⟨t274, t275⟩, A110, H⟩ := H
     replace H : (if t275 = true then (selfstabref02_node.l0 kj2 t269 t274 ([] : List (S41)) 2) else (some (0, ([] : List (S41)), false))) = some (r1, r2, r3) := H
     have A11 := Aside0.mk A110
     clear A110;by_cases c12 : t275 = true
     ·subst c12;have H1 : (selfstabref02_node.l0 kj2 t269 t274 ([] : List (S41)) 2) = some (r1, r2, r3) := by rw [if_pos rfl] at H; exact H
      clear H;have H := H1
      clear H1;have H' := Aside0.mk H
      clear H;obtain ⟨Ao13, co13, eo13⟩ := Kd.R_slice HO_5.out
      subst eo13;have p273 : 0 ≤ (1 : Int) := (by omega)
      have q273 : 1 < (t269.length : Int) := of_decide_eq_true (by first | (with_reducible assumption) | assumption)
      obtain ⟨ad273, e273, hx273_0⟩ := Kd.at_string (Kd.R_reads' HO_5.out).2.2 1 p273 q273
      cases e273;(try simp only [show (1 : Int).toNat = 1 from rfl, Nat.reduceMul, Nat.reduceEqDiff, Go.Addr.add, ↓reduceIte] at hx273_0)
      have qi273 : (1 < t269.length) = True := eq_true (by omega)
      (try rw [show ((1 : Int)).toNat = 1 from rfl] at hx273_0)
      replace p273 := eq_true p273;replace q273 := eq_true q273;go_wp2_with (first | ((with_reducible refine gate_callee (f := 37) rfl ?_); refine goesL_ (some 30) rfl rfl Tryd.func37 (by kernel_rfl) rfl #[.string (rdOf ByteArray.empty t269 1)] rfl (by (try simp only [List.map_toArray, List.map_cons, List.map_nil]); first | done | rfl | (simp only [List.length_drop, List.length_take]; rfl)) ?_; (with_reducible refine (selfstabref02_Number.calls kj2 (rdOf ByteArray.empty t269 1) t274 true _ A11.out).mono ?_); rintro e w' ⟨rfl, ⟨nd, rfl⟩⟩; refine ⟨_, rfl, ?_⟩))
      go_loopg [8, 9] kj2 (fun kq v8 v9 w' => ∃ (x8_2 : List (S41)) (x9_2 : Int), v9 = .int .i64 x9_2 ∧ Aside0 (selfstabref02_node.l0 kq t269 t274 x8_2 x9_2 = some (r1, r2, r3)) ∧ Aside0 (kq ≤ kj2) ∧ Aside0 (Kd.R Kd.string 9 w' w.heap.size (fun _ => True) (.slice (some ad273) t269.length co13) t269) ∧ Aside0 (Kd.R k41 41 w' w.heap.size (fun _ => True) v8 x8_2) ∧ Aside0 (Below w.heap.size w w'))
      case atStart => exact ⟨(([] : List (S41))), (2), (by first | rfl | (simp; done) | (simp [*]; done)), H', ⟨Nat.le_refl _⟩, ⟨by (with_reducible repeat (first | apply Kd.R_alloc | apply Kd.R_drewN | apply Kd.R_drew)); exact HO_5.out⟩, ⟨by first | exact Kd.R_nil _ _ _ _ _ | exact Kd.N_nil _ _ _ _ _ | exact Kd.V_nil _ _ _ _ _ | exact Kd.Q_nil _ _ _ _ _ | exact Kd.S_nil _ _ _ _ _⟩, ⟨by repeat (first | (with_reducible first | exact HB.out | apply below_alloc | apply pw_below_drewN | apply below_drew1) | exact HB.out)⟩⟩
      case round =>
       clear H';try clear c9
       try clear c10
       try clear c10b0
       try clear c10b1
       try clear c12
       try clear hx273_0
       try clear p273
       try clear q273
       obtain ⟨x8_2, x9_2, rfl, HA, HK2, HO_5, HO_8, HB⟩ := hrel
       cases gk with
       | zero => exact absurd HA.out (by simp [selfstabref02_node.l0])
       | succ k2 =>
        have H := HA.out
        clear HA;simp only [selfstabref02_node.l0] at H
        by_cases c14 : x9_2 < (t269.length : Int)
        ·rw [if_pos c14] at H
         have c14b0 : decide (x9_2 < (t269.length : Int)) = true := decide_eq_true c14
         clear c14;by_cases c15 : 0 ≤ x9_2
         ·rw [if_pos c15] at H
          have c15b0 : decide (0 ≤ x9_2) = true := decide_eq_true c15
          clear c15;replace H := Option.bind_eq_some_iff.mp H
          obtain ⟨t277, A160, H⟩ := H
          replace H : (if (t277.length : Int) = 2 then (if 0 < (t277.length : Int) then ((selfstabref02_Number.f k2 (rdOf ByteArray.empty t277 0)).bind fun bt281 => (if 1 < (t277.length : Int) then ((selfstabref02_Number.f k2 (rdOf ByteArray.empty t277 1)).bind fun bt284 => (if bt281.2 = true then (if bt284.2 = true then (if x8_2.length < 8796093022208 then (selfstabref02_node.l0 k2 t269 t274 (x8_2 ++ [(⟨bt281.1, bt284.1⟩ : S41)]) (wrap64 (x9_2 + 1))) else (none)) else (some (0, ([] : List (S41)), false))) else (some (0, ([] : List (S41)), false)))) else (none))) else (none)) else (some (0, ([] : List (S41)), false))) = some (r1, r2, r3) := H
          have A16 := Aside0.mk A160
          clear A160;by_cases c17 : (t277.length : Int) = 2
          ·rw [if_pos c17] at H
           have c17b0 : ((t277.length : Int) == 2) = true := beq_iff_eq.mpr c17
           have c17b1 : ((t277.length : Int) != 2) = false := bne_eq_false_iff_eq.mpr c17
           clear c17;by_cases c18 : 0 < (t277.length : Int)
           ·rw [if_pos c18] at H
            have c18b0 : decide (0 < (t277.length : Int)) = true := decide_eq_true c18
            have c18b1 : decide (0 < t277.length) = true := decide_eq_true (by omega)
            clear c18;replace H := Option.bind_eq_some_iff.mp H
            obtain ⟨⟨t281, t282⟩, A190, H⟩ := H
            replace H : (if 1 < (t277.length : Int) then ((selfstabref02_Number.f k2 (rdOf ByteArray.empty t277 1)).bind fun bt284 => (if t282 = true then (if bt284.2 = true then (if x8_2.length < 8796093022208 then (selfstabref02_node.l0 k2 t269 t274 (x8_2 ++ [(⟨t281, bt284.1⟩ : S41)]) (wrap64 (x9_2 + 1))) else (none)) else (some (0, ([] : List (S41)), false))) else (some (0, ([] : List (S41)), false)))) else (none)) = some (r1, r2, r3) := H
            have A19 := Aside0.mk A190
            clear A190;by_cases c20 : 1 < (t277.length : Int)
            ·rw [if_pos c20] at H
             have c20b0 : decide (1 < (t277.length : Int)) = true := decide_eq_true c20
             have c20b1 : decide (1 < t277.length) = true := decide_eq_true (by omega)
             clear c20;replace H := Option.bind_eq_some_iff.mp H
             obtain ⟨⟨t284, t285⟩, A210, H⟩ := H
             replace H : (if t282 = true then (if t285 = true then (if x8_2.length < 8796093022208 then (selfstabref02_node.l0 k2 t269 t274 (x8_2 ++ [(⟨t281, t284⟩ : S41)]) (wrap64 (x9_2 + 1))) else (none)) else (some (0, ([] : List (S41)), false))) else (some (0, ([] : List (S41)), false))) = some (r1, r2, r3) := H
             have A21 := Aside0.mk A210
             clear A210;by_cases c22 : t282 = true
             ·subst c22;have H1 : (if t285 = true then (if x8_2.length < 8796093022208 then (selfstabref02_node.l0 k2 t269 t274 (x8_2 ++ [(⟨t281, t284⟩ : S41)]) (wrap64 (x9_2 + 1))) else (none)) else (some (0, ([] : List (S41)), false))) = some (r1, r2, r3) := by rw [if_pos rfl] at H; exact H
              clear H;have H := H1
              clear H1;by_cases c23 : t285 = true
              ·subst c23;have H1 : (if x8_2.length < 8796093022208 then (selfstabref02_node.l0 k2 t269 t274 (x8_2 ++ [(⟨t281, t284⟩ : S41)]) (wrap64 (x9_2 + 1))) else (none)) = some (r1, r2, r3) := by rw [if_pos rfl] at H; exact H
               clear H;have H := H1
               clear H1;by_cases c24 : x8_2.length < 8796093022208
               ·rw [if_pos c24] at H
                have LMc24 := Aside0.mk c24
                clear c24;obtain ⟨y286, hy286⟩ : ∃ y_ : List (S41), y_ = (x8_2 ++ [(⟨t281, t284⟩ : S41)]) := ⟨_, rfl⟩
                replace H : (selfstabref02_node.l0 k2 t269 t274 y286 (wrap64 (x9_2 + 1))) = some (r1, r2, r3) := by first | (rw [hy286]; with_reducible exact H) | (have H2_ := (Option.bind_some _ _).symm.trans H; rw [hy286]; with_reducible exact H2_) | (have H2_ := (Option.bind_some _ _).symm.trans H; with_reducible exact H2_) | with_reducible exact H | (rw [hy286]; exact H) | exact H
                have Ny286 := Aside0.mk hy286
                clear hy286;have H' := Aside0.mk H
                clear H;have p276 : 0 ≤ (x9_2 : Int) := of_decide_eq_true (by first | (with_reducible assumption) | assumption)
                have q276 : x9_2 < (t269.length : Int) := of_decide_eq_true (by first | (with_reducible assumption) | assumption)
                obtain ⟨ad276, e276, hx276_0⟩ := Kd.at_string (Kd.R_reads' HO_5.out).2.2 x9_2 p276 q276
                obtain rfl : ad273 = ad276 := (by injection e276)
                replace p276 := eq_true p276;replace q276 := eq_true q276
                go_wp2_with (first | ((with_reducible refine gate_callee (f := 28) rfl ?_); refine goesL_ (some 45) rfl rfl Tryd.func28 (by kernel_rfl) rfl #[.string (rdOf ByteArray.empty t269 x9_2), .int .u8 47] rfl (by (try simp only [List.map_toArray, List.map_cons, List.map_nil]); first | done | rfl | (simp only [List.length_drop, List.length_take]; rfl)) ?_; (with_reducible refine (selfstabref02_Split.calls k2 (rdOf ByteArray.empty t269 x9_2) 47 t277 _ A16.out).mono ?_); rintro e w25 ⟨v278, rfl, ho0, hb⟩; refine ⟨_, rfl, ?_⟩; have n0_ := Aside0.mk (Kd.R_elder' (by (with_reducible repeat (first | apply Kd.R_alloc | apply Kd.R_drewN | apply Kd.R_drew)); exact HO_5.out) (Kd.R_base ho0) hb); have n1_ := Aside0.mk (Kd.R_below (by (with_reducible repeat (first | apply Kd.R_alloc | apply Kd.R_drewN | apply Kd.R_drew)); exact HO_8.out) hb); have n2_ := Aside0.mk (Kd.R_lower (Kd.R_new' ho0 (Kd.R_lt (by (with_reducible repeat (first | apply Kd.R_alloc | apply Kd.R_drewN | apply Kd.R_drew)); exact HO_5.out))) (below_size (by repeat (first | (with_reducible first | exact HB.out | apply below_alloc | apply pw_below_drewN | apply below_drew1) | exact HB.out)))); have n3_ := Aside0.mk (below_step (by repeat (first | (with_reducible first | exact HB.out | apply below_alloc | apply pw_below_drewN | apply below_drew1) | exact HB.out)) hb); clear HO_5; clear HO_8; clear HB; have HO_5 := n0_; have HO_8 := n1_; have HO279 := n2_; have HB := n3_; clear n0_ n1_ n2_ n3_; (try clear hb); (try clear hb2); (try clear hk); (try clear hi); (try clear ho0); obtain ⟨Ao26, co26, eo26⟩ := Kd.R_slice HO279.out; subst eo26; have p280 : 0 ≤ (0 : Int) := (by omega); have q280 : 0 < (t277.length : Int) := of_decide_eq_true (by first | (with_reducible assumption) | assumption); obtain ⟨ad280, e280, hx280_0⟩ := Kd.at_string (Kd.R_reads' HO279.out).2.2 0 p280 q280; cases e280; have qi280 : (0 < t277.length) = True := eq_true (by omega); (try rw [show ((0 : Int)).toNat = 0 from rfl] at hx280_0); (try rw [Addr.add_zero'] at hx280_0); replace p280 := eq_true p280; replace q280 := eq_true q280) | ((with_reducible refine gate_callee (f := 37) rfl ?_); refine goesL_ (some 53) rfl rfl Tryd.func37 (by kernel_rfl) rfl #[.string (rdOf ByteArray.empty t277 0)] rfl (by (try simp only [List.map_toArray, List.map_cons, List.map_nil]); first | done | rfl | (simp only [List.length_drop, List.length_take]; rfl)) ?_; (with_reducible refine (selfstabref02_Number.calls k2 (rdOf ByteArray.empty t277 0) t281 true _ A19.out).mono ?_); rintro e w' ⟨rfl, ⟨nd, rfl⟩⟩; refine ⟨_, rfl, ?_⟩; have p283 : 0 ≤ (1 : Int) := (by omega); have q283 : 1 < (t277.length : Int) := of_decide_eq_true (by first | (with_reducible assumption) | assumption); obtain ⟨ad283, e283, hx283_0⟩ := Kd.at_string (Kd.R_reads' HO279.out).2.2 1 p283 q283; obtain rfl : ad280 = ad283 := (by injection e283); (try simp only [show (1 : Int).toNat = 1 from rfl, Nat.reduceMul, Nat.reduceEqDiff, Go.Addr.add, ↓reduceIte] at hx283_0); have qi283 : (1 < t277.length) = True := eq_true (by omega); (try rw [show ((1 : Int)).toNat = 1 from rfl] at hx283_0); replace p283 := eq_true p283; replace q283 := eq_true q283) | ((with_reducible refine gate_callee (f := 37) rfl ?_); refine goesL_ (some 60) rfl rfl Tryd.func37 (by kernel_rfl) rfl #[.string (rdOf ByteArray.empty t277 1)] rfl (by (try simp only [List.map_toArray, List.map_cons, List.map_nil]); first | done | rfl | (simp only [List.length_drop, List.length_take]; rfl)) ?_; (with_reducible refine (selfstabref02_Number.calls k2 (rdOf ByteArray.empty t277 1) t284 true _ A21.out).mono ?_); rintro e w' ⟨rfl, ⟨nd, rfl⟩⟩; refine ⟨_, rfl, ?_⟩) | ((with_reducible refine gate_builtin (b := .append) (xs := #[.tmp 69, .tmp 73]) rfl ?_); at_builtin; refine Kd.R_append k41 (w0 := w) w.heap.size rfl (.tmp 69) (.tmp 73) 39 41 (.agg #[(.int .i64 0), (.int .i64 0)]) 16 rfl Tryd.underlying39 info41 rfl (by decide) (by omega) u8 x8_2 (⟨t281, t284⟩ : S41) [.int .i64 t281, .int .i64 t284] (fun _ => True) (fun _ => False) rfl rfl ?aP (fun _ hk => hk.elim) ?aF ?aO ?aB ?aS ?aL ?_; (case aP => exact k41_mkM _ _ _ (⟨t281, t284⟩ : S41)); (case aB => exact (by repeat (first | (with_reducible first | exact HB.out | apply below_alloc | apply pw_below_drewN | apply below_drew1) | exact HB.out))); (case aF => exact (fun _ _ => trivial)); (case aO => exact (by (with_reducible repeat (first | apply Kd.R_alloc | apply Kd.R_drewN | apply Kd.R_drew)); exact HO_8.out)); (case aS => exact (below_size (by repeat (first | (with_reducible first | exact HB.out | apply below_alloc | apply pw_below_drewN | apply below_drew1) | exact HB.out)))); (case aL => have := LMc24.out; omega); intro v287 w27 ho hb hg hat; rw [← Ny286.out] at ho; have n0_ := Aside0.mk (Kd.R_over' (by (with_reducible repeat (first | apply Kd.R_alloc | apply Kd.R_drewN | apply Kd.R_drew)); exact HO_5.out) (Kd.R_typed (by (with_reducible repeat (first | apply Kd.R_alloc | apply Kd.R_drewN | apply Kd.R_drew)); exact HO_8.out)) (by decide) hg); have n1_ := Aside0.mk (Kd.R_over' (by (with_reducible repeat (first | apply Kd.R_alloc | apply Kd.R_drewN | apply Kd.R_drew)); exact HO279.out) (Kd.R_typed (by (with_reducible repeat (first | apply Kd.R_alloc | apply Kd.R_drewN | apply Kd.R_drew)); exact HO_8.out)) (by decide) hg); have n2_ := Aside0.mk (hb); have n3_ := Aside0.mk (ho); clear HO_5; clear HO279; clear HB; clear HO_8; have HO_5 := n0_; have HO279 := n1_; have HB := n2_; have HO288 := n3_; clear n0_ n1_ n2_ n3_; clear ho hb hg hat))
                go_roundg k2
                case measure => have := HJ2.out; have := HK2.out; omega
                case rel => exact ⟨(y286), (wrap64 (x9_2 + 1)), (by first | rfl | (simp; done) | (simp [*]; done)), H', ⟨by have := HJ2.out; have := HK2.out; omega⟩, ⟨by (with_reducible repeat (first | apply Kd.R_alloc | apply Kd.R_drewN | apply Kd.R_drew)); exact Kd.R_mono HO_5.out (fun _ hk => trivial)⟩, ⟨by (with_reducible repeat (first | apply Kd.R_alloc | apply Kd.R_drewN | apply Kd.R_drew)); exact HO288.out⟩, ⟨by repeat (first | (with_reducible first | exact HB.out | apply below_alloc | apply pw_below_drewN | apply below_drew1) | exact HB.out)⟩⟩
               ·rw [if_neg c24] at H
                exact absurd H (by simp)
              ·replace c23 := Bool.eq_false_iff.mpr c23
               subst c23;have H1 : (some (0, ([] : List (S41)), false)) = some (r1, r2, r3) := by rw [if_neg (show ¬ (false = true) by decide)] at H; exact H
               clear H;have H := H1
               clear H1;simp only [Option.some.injEq, Prod.mk.injEq] at H
               obtain ⟨rfl, rfl, rfl⟩ := H
               have p276 : 0 ≤ (x9_2 : Int) := of_decide_eq_true (by first | (with_reducible assumption) | assumption)
               have q276 : x9_2 < (t269.length : Int) := of_decide_eq_true (by first | (with_reducible assumption) | assumption)
               obtain ⟨ad276, e276, hx276_0⟩ := Kd.at_string (Kd.R_reads' HO_5.out).2.2 x9_2 p276 q276
               obtain rfl : ad273 = ad276 := (by injection e276)
               replace p276 := eq_true p276;replace q276 := eq_true q276
               go_wp2_with (first | ((with_reducible refine gate_callee (f := 28) rfl ?_); refine goesL_ (some 45) rfl rfl Tryd.func28 (by kernel_rfl) rfl #[.string (rdOf ByteArray.empty t269 x9_2), .int .u8 47] rfl (by (try simp only [List.map_toArray, List.map_cons, List.map_nil]); first | done | rfl | (simp only [List.length_drop, List.length_take]; rfl)) ?_; (with_reducible refine (selfstabref02_Split.calls k2 (rdOf ByteArray.empty t269 x9_2) 47 t277 _ A16.out).mono ?_); rintro e w28 ⟨v278, rfl, ho0, hb⟩; refine ⟨_, rfl, ?_⟩; have n0_ := Aside0.mk (Kd.R_elder' (by (with_reducible repeat (first | apply Kd.R_alloc | apply Kd.R_drewN | apply Kd.R_drew)); exact HO_5.out) (Kd.R_base ho0) hb); have n1_ := Aside0.mk (Kd.R_below (by (with_reducible repeat (first | apply Kd.R_alloc | apply Kd.R_drewN | apply Kd.R_drew)); exact HO_8.out) hb); have n2_ := Aside0.mk (Kd.R_lower (Kd.R_new' ho0 (Kd.R_lt (by (with_reducible repeat (first | apply Kd.R_alloc | apply Kd.R_drewN | apply Kd.R_drew)); exact HO_5.out))) (below_size (by repeat (first | (with_reducible first | exact HB.out | apply below_alloc | apply pw_below_drewN | apply below_drew1) | exact HB.out)))); have n3_ := Aside0.mk (below_step (by repeat (first | (with_reducible first | exact HB.out | apply below_alloc | apply pw_below_drewN | apply below_drew1) | exact HB.out)) hb); clear HO_5; clear HO_8; clear HB; have HO_5 := n0_; have HO_8 := n1_; have HO279 := n2_; have HB := n3_; clear n0_ n1_ n2_ n3_; (try clear hb); (try clear hb2); (try clear hk); (try clear hi); (try clear ho0); obtain ⟨Ao29, co29, eo29⟩ := Kd.R_slice HO279.out; subst eo29; have p280 : 0 ≤ (0 : Int) := (by omega); have q280 : 0 < (t277.length : Int) := of_decide_eq_true (by first | (with_reducible assumption) | assumption); obtain ⟨ad280, e280, hx280_0⟩ := Kd.at_string (Kd.R_reads' HO279.out).2.2 0 p280 q280; cases e280; have qi280 : (0 < t277.length) = True := eq_true (by omega); (try rw [show ((0 : Int)).toNat = 0 from rfl] at hx280_0); (try rw [Addr.add_zero'] at hx280_0); replace p280 := eq_true p280; replace q280 := eq_true q280) | ((with_reducible refine gate_callee (f := 37) rfl ?_); refine goesL_ (some 53) rfl rfl Tryd.func37 (by kernel_rfl) rfl #[.string (rdOf ByteArray.empty t277 0)] rfl (by (try simp only [List.map_toArray, List.map_cons, List.map_nil]); first | done | rfl | (simp only [List.length_drop, List.length_take]; rfl)) ?_; (with_reducible refine (selfstabref02_Number.calls k2 (rdOf ByteArray.empty t277 0) t281 true _ A19.out).mono ?_); rintro e w' ⟨rfl, ⟨nd, rfl⟩⟩; refine ⟨_, rfl, ?_⟩; have p283 : 0 ≤ (1 : Int) := (by omega); have q283 : 1 < (t277.length : Int) := of_decide_eq_true (by first | (with_reducible assumption) | assumption); obtain ⟨ad283, e283, hx283_0⟩ := Kd.at_string (Kd.R_reads' HO279.out).2.2 1 p283 q283; obtain rfl : ad280 = ad283 := (by injection e283); (try simp only [show (1 : Int).toNat = 1 from rfl, Nat.reduceMul, Nat.reduceEqDiff, Go.Addr.add, ↓reduceIte] at hx283_0); have qi283 : (1 < t277.length) = True := eq_true (by omega); (try rw [show ((1 : Int)).toNat = 1 from rfl] at hx283_0); replace p283 := eq_true p283; replace q283 := eq_true q283) | ((with_reducible refine gate_callee (f := 37) rfl ?_); refine goesL_ (some 60) rfl rfl Tryd.func37 (by kernel_rfl) rfl #[.string (rdOf ByteArray.empty t277 1)] rfl (by (try simp only [List.map_toArray, List.map_cons, List.map_nil]); first | done | rfl | (simp only [List.length_drop, List.length_take]; rfl)) ?_; (with_reducible refine (selfstabref02_Number.calls k2 (rdOf ByteArray.empty t277 1) t284 false _ A21.out).mono ?_); rintro e w' ⟨rfl, ⟨nd, rfl⟩⟩; refine ⟨_, rfl, ?_⟩))
               go_ret3
               exact ⟨_, by first | rfl | (simp [errW_none, errW_some] <;> rfl) | (simp [*, errW_none, errW_some] <;> rfl), by first | exact Kd.R_nil _ _ _ _ _ | exact Kd.N_nil _ _ _ _ _ | exact Kd.V_nil _ _ _ _ _ | exact Kd.Q_nil _ _ _ _ _ | exact Kd.S_nil _ _ _ _ _, by repeat (first | (with_reducible first | exact HB.out | apply below_alloc | apply pw_below_drewN | apply below_drew1) | exact HB.out)⟩
             ·replace c22 := Bool.eq_false_iff.mpr c22
              subst c22;have H1 : (some (0, ([] : List (S41)), false)) = some (r1, r2, r3) := by rw [if_neg (show ¬ (false = true) by decide)] at H; exact H
              clear H;have H := H1
              clear H1;simp only [Option.some.injEq, Prod.mk.injEq] at H
              obtain ⟨rfl, rfl, rfl⟩ := H
              have p276 : 0 ≤ (x9_2 : Int) := of_decide_eq_true (by first | (with_reducible assumption) | assumption)
              have q276 : x9_2 < (t269.length : Int) := of_decide_eq_true (by first | (with_reducible assumption) | assumption)
              obtain ⟨ad276, e276, hx276_0⟩ := Kd.at_string (Kd.R_reads' HO_5.out).2.2 x9_2 p276 q276
              obtain rfl : ad273 = ad276 := (by injection e276)
              replace p276 := eq_true p276;replace q276 := eq_true q276
              go_wp2_with (first | ((with_reducible refine gate_callee (f := 28) rfl ?_); refine goesL_ (some 45) rfl rfl Tryd.func28 (by kernel_rfl) rfl #[.string (rdOf ByteArray.empty t269 x9_2), .int .u8 47] rfl (by (try simp only [List.map_toArray, List.map_cons, List.map_nil]); first | done | rfl | (simp only [List.length_drop, List.length_take]; rfl)) ?_; (with_reducible refine (selfstabref02_Split.calls k2 (rdOf ByteArray.empty t269 x9_2) 47 t277 _ A16.out).mono ?_); rintro e w30 ⟨v278, rfl, ho0, hb⟩; refine ⟨_, rfl, ?_⟩; have n0_ := Aside0.mk (Kd.R_elder' (by (with_reducible repeat (first | apply Kd.R_alloc | apply Kd.R_drewN | apply Kd.R_drew)); exact HO_5.out) (Kd.R_base ho0) hb); have n1_ := Aside0.mk (Kd.R_below (by (with_reducible repeat (first | apply Kd.R_alloc | apply Kd.R_drewN | apply Kd.R_drew)); exact HO_8.out) hb); have n2_ := Aside0.mk (Kd.R_lower (Kd.R_new' ho0 (Kd.R_lt (by (with_reducible repeat (first | apply Kd.R_alloc | apply Kd.R_drewN | apply Kd.R_drew)); exact HO_5.out))) (below_size (by repeat (first | (with_reducible first | exact HB.out | apply below_alloc | apply pw_below_drewN | apply below_drew1) | exact HB.out)))); have n3_ := Aside0.mk (below_step (by repeat (first | (with_reducible first | exact HB.out | apply below_alloc | apply pw_below_drewN | apply below_drew1) | exact HB.out)) hb); clear HO_5; clear HO_8; clear HB; have HO_5 := n0_; have HO_8 := n1_; have HO279 := n2_; have HB := n3_; clear n0_ n1_ n2_ n3_; (try clear hb); (try clear hb2); (try clear hk); (try clear hi); (try clear ho0); obtain ⟨Ao31, co31, eo31⟩ := Kd.R_slice HO279.out; subst eo31; have p280 : 0 ≤ (0 : Int) := (by omega); have q280 : 0 < (t277.length : Int) := of_decide_eq_true (by first | (with_reducible assumption) | assumption); obtain ⟨ad280, e280, hx280_0⟩ := Kd.at_string (Kd.R_reads' HO279.out).2.2 0 p280 q280; cases e280; have qi280 : (0 < t277.length) = True := eq_true (by omega); (try rw [show ((0 : Int)).toNat = 0 from rfl] at hx280_0); (try rw [Addr.add_zero'] at hx280_0); replace p280 := eq_true p280; replace q280 := eq_true q280) | ((with_reducible refine gate_callee (f := 37) rfl ?_); refine goesL_ (some 53) rfl rfl Tryd.func37 (by kernel_rfl) rfl #[.string (rdOf ByteArray.empty t277 0)] rfl (by (try simp only [List.map_toArray, List.map_cons, List.map_nil]); first | done | rfl | (simp only [List.length_drop, List.length_take]; rfl)) ?_; (with_reducible refine (selfstabref02_Number.calls k2 (rdOf ByteArray.empty t277 0) t281 false _ A19.out).mono ?_); rintro e w' ⟨rfl, ⟨nd, rfl⟩⟩; refine ⟨_, rfl, ?_⟩; have p283 : 0 ≤ (1 : Int) := (by omega); have q283 : 1 < (t277.length : Int) := of_decide_eq_true (by first | (with_reducible assumption) | assumption); obtain ⟨ad283, e283, hx283_0⟩ := Kd.at_string (Kd.R_reads' HO279.out).2.2 1 p283 q283; obtain rfl : ad280 = ad283 := (by injection e283); (try simp only [show (1 : Int).toNat = 1 from rfl, Nat.reduceMul, Nat.reduceEqDiff, Go.Addr.add, ↓reduceIte] at hx283_0); have qi283 : (1 < t277.length) = True := eq_true (by omega); (try rw [show ((1 : Int)).toNat = 1 from rfl] at hx283_0); replace p283 := eq_true p283; replace q283 := eq_true q283) | ((with_reducible refine gate_callee (f := 37) rfl ?_); refine goesL_ (some 60) rfl rfl Tryd.func37 (by kernel_rfl) rfl #[.string (rdOf ByteArray.empty t277 1)] rfl (by (try simp only [List.map_toArray, List.map_cons, List.map_nil]); first | done | rfl | (simp only [List.length_drop, List.length_take]; rfl)) ?_; (with_reducible refine (selfstabref02_Number.calls k2 (rdOf ByteArray.empty t277 1) t284 t285 _ A21.out).mono ?_); rintro e w' ⟨rfl, ⟨nd, rfl⟩⟩; refine ⟨_, rfl, ?_⟩))
              go_ret3
              exact ⟨_, by first | rfl | (simp [errW_none, errW_some] <;> rfl) | (simp [*, errW_none, errW_some] <;> rfl), by first | exact Kd.R_nil _ _ _ _ _ | exact Kd.N_nil _ _ _ _ _ | exact Kd.V_nil _ _ _ _ _ | exact Kd.Q_nil _ _ _ _ _ | exact Kd.S_nil _ _ _ _ _, by repeat (first | (with_reducible first | exact HB.out | apply below_alloc | apply pw_below_drewN | apply below_drew1) | exact HB.out)⟩
            ·rw [if_neg c20] at H
             exact absurd H (by simp)
           ·rw [if_neg c18] at H
            exact absurd H (by simp)
          ·rw [if_neg c17] at H
           have c17b0 : ((t277.length : Int) == 2) = false := beq_eq_false_iff_ne.mpr c17
           have c17b1 : ((t277.length : Int) != 2) = true := bne_iff_ne.mpr c17
           simp only [Option.some.injEq, Prod.mk.injEq] at H
           obtain ⟨rfl, rfl, rfl⟩ := H
           have p276 : 0 ≤ (x9_2 : Int) := of_decide_eq_true (by first | (with_reducible assumption) | assumption)
           have q276 : x9_2 < (t269.length : Int) := of_decide_eq_true (by first | (with_reducible assumption) | assumption)
           obtain ⟨ad276, e276, hx276_0⟩ := Kd.at_string (Kd.R_reads' HO_5.out).2.2 x9_2 p276 q276
           obtain rfl : ad273 = ad276 := (by injection e276)
           replace p276 := eq_true p276;replace q276 := eq_true q276
           go_wp2_with (first | ((with_reducible refine gate_callee (f := 28) rfl ?_); refine goesL_ (some 45) rfl rfl Tryd.func28 (by kernel_rfl) rfl #[.string (rdOf ByteArray.empty t269 x9_2), .int .u8 47] rfl (by (try simp only [List.map_toArray, List.map_cons, List.map_nil]); first | done | rfl | (simp only [List.length_drop, List.length_take]; rfl)) ?_; (with_reducible refine (selfstabref02_Split.calls k2 (rdOf ByteArray.empty t269 x9_2) 47 t277 _ A16.out).mono ?_); rintro e w32 ⟨v278, rfl, ho0, hb⟩; refine ⟨_, rfl, ?_⟩; have n0_ := Aside0.mk (Kd.R_elder' (by (with_reducible repeat (first | apply Kd.R_alloc | apply Kd.R_drewN | apply Kd.R_drew)); exact HO_5.out) (Kd.R_base ho0) hb); have n1_ := Aside0.mk (Kd.R_below (by (with_reducible repeat (first | apply Kd.R_alloc | apply Kd.R_drewN | apply Kd.R_drew)); exact HO_8.out) hb); have n2_ := Aside0.mk (Kd.R_lower (Kd.R_new' ho0 (Kd.R_lt (by (with_reducible repeat (first | apply Kd.R_alloc | apply Kd.R_drewN | apply Kd.R_drew)); exact HO_5.out))) (below_size (by repeat (first | (with_reducible first | exact HB.out | apply below_alloc | apply pw_below_drewN | apply below_drew1) | exact HB.out)))); have n3_ := Aside0.mk (below_step (by repeat (first | (with_reducible first | exact HB.out | apply below_alloc | apply pw_below_drewN | apply below_drew1) | exact HB.out)) hb); clear HO_5; clear HO_8; clear HB; have HO_5 := n0_; have HO_8 := n1_; have HO279 := n2_; have HB := n3_; clear n0_ n1_ n2_ n3_; (try clear hb); (try clear hb2); (try clear hk); (try clear hi); (try clear ho0); obtain ⟨Ao33, co33, eo33⟩ := Kd.R_slice HO279.out; subst eo33))
           go_ret3
           exact ⟨_, by first | rfl | (simp [errW_none, errW_some] <;> rfl) | (simp [*, errW_none, errW_some] <;> rfl), by first | exact Kd.R_nil _ _ _ _ _ | exact Kd.N_nil _ _ _ _ _ | exact Kd.V_nil _ _ _ _ _ | exact Kd.Q_nil _ _ _ _ _ | exact Kd.S_nil _ _ _ _ _, by repeat (first | (with_reducible first | exact HB.out | apply below_alloc | apply pw_below_drewN | apply below_drew1) | exact HB.out)⟩
         ·rw [if_neg c15] at H
          exact absurd H (by simp)
        ·rw [if_neg c14] at H
         have c14b0 : decide (x9_2 < (t269.length : Int)) = false := decide_eq_false c14
         clear c14;simp only [Option.some.injEq, Prod.mk.injEq] at H
         obtain ⟨rfl, rfl, rfl⟩ := H
         go_wp2
         go_ret3
         exact ⟨_, by first | rfl | (simp [errW_none, errW_some] <;> rfl) | (simp [*, errW_none, errW_some] <;> rfl), by (with_reducible repeat (first | apply Kd.R_alloc | apply Kd.R_drewN | apply Kd.R_drew)); exact HO_8.out, by repeat (first | (with_reducible first | exact HB.out | apply below_alloc | apply pw_below_drewN | apply below_drew1) | exact HB.out)⟩
     ·replace c12 := Bool.eq_false_iff.mpr c12
      subst c12;have H1 : (some (0, ([] : List (S41)), false)) = some (r1, r2, r3) := by rw [if_neg (show ¬ (false = true) by decide)] at H; exact H
      clear H;have H := H1
      clear H1;simp only [Option.some.injEq, Prod.mk.injEq] at H
      obtain ⟨rfl, rfl, rfl⟩ := H
      obtain ⟨Ao34, co34, eo34⟩ := Kd.R_slice HO_5.out
      subst eo34;have p273 : 0 ≤ (1 : Int) := (by omega)
      have q273 : 1 < (t269.length : Int) := of_decide_eq_true (by first | (with_reducible assumption) | assumption)
      obtain ⟨ad273, e273, hx273_0⟩ := Kd.at_string (Kd.R_reads' HO_5.out).2.2 1 p273 q273
      cases e273;(try simp only [show (1 : Int).toNat = 1 from rfl, Nat.reduceMul, Nat.reduceEqDiff, Go.Addr.add, ↓reduceIte] at hx273_0)
      have qi273 : (1 < t269.length) = True := eq_true (by omega)
      (try rw [show ((1 : Int)).toNat = 1 from rfl] at hx273_0)
      replace p273 := eq_true p273;replace q273 := eq_true q273;go_wp2_with (first | ((with_reducible refine gate_callee (f := 37) rfl ?_); refine goesL_ (some 30) rfl rfl Tryd.func37 (by kernel_rfl) rfl #[.string (rdOf ByteArray.empty t269 1)] rfl (by (try simp only [List.map_toArray, List.map_cons, List.map_nil]); first | done | rfl | (simp only [List.length_drop, List.length_take]; rfl)) ?_; (with_reducible refine (selfstabref02_Number.calls kj2 (rdOf ByteArray.empty t269 1) t274 false _ A11.out).mono ?_); rintro e w' ⟨rfl, ⟨nd, rfl⟩⟩; refine ⟨_, rfl, ?_⟩))
      go_ret3
      exact ⟨_, by first | rfl | (simp [errW_none, errW_some] <;> rfl) | (simp [*, errW_none, errW_some] <;> rfl), by first | exact Kd.R_nil _ _ _ _ _ | exact Kd.N_nil _ _ _ _ _ | exact Kd.V_nil _ _ _ _ _ | exact Kd.Q_nil _ _ _ _ _ | exact Kd.S_nil _ _ _ _ _, by repeat (first | (with_reducible first | exact HB.out | apply below_alloc | apply pw_below_drewN | apply below_drew1) | exact HB.out)⟩
    ·rw [if_neg c10] at H
     exact absurd H (by simp)
end Go.Proofs.YtinfejpkjddbiaaDoor.P
