/- Part of the proof of the law GraphtextWritesBack: P3. -/
import Derived.Test.YtinfejpkjddbiaaDoorGraphtextWritesBackP0
namespace Go.Proofs.YtinfejpkjddbiaaDoor.P
open Go.RowKit Go.Proofs.YtinfejpkjddbiaaDoorW.PrintWords Go.Proofs.YtinfejpkjddbiaaDoorW.PrintLast Go.Proofs.YtinfejpkjddbiaaDoorW.PrintMore
attribute [local go_sem] max2_int min2_int max_two min_two max_three min_three max_four min_four
set_option linter.unusedVariables false
set_option linter.unusedSimpArgs false
def graph_Valid.ids : List Int → List Int → Bool
 | _, [] => true
 | seen, x :: xs => if x < 0 then false else if x > 255 then false else if seen.contains x then false else graph_Valid.ids (x :: seen) xs
def graph_Valid.row (n v : Int) : List (Int × Int × Int) → List S41 → Option (List (Int × Int × Int))
 | ws, [] => some ws
 | ws, l :: ls => if l.f0 < 0 then none else if l.f0 ≥ n then none else if l.f0 = v then none else if l.f1 < 1 then none else if l.f1 > 15 then none else if Mp.lk ws v l.f0 = 0 then graph_Valid.row n v ((v, l.f0, l.f1) :: ws) ls else none
def graph_Valid.rows (n : Int) : Int → List (Int × Int × Int) → List (List S41) → Option (List (Int × Int × Int))
 | _, ws, [] => some ws
 | v, ws, r :: rs => (graph_Valid.row n v ws r).bind fun ws1 => graph_Valid.rows n (v + 1) ws1 rs
def graph_Valid.fin (o : Option (List (Int × Int × Int))) : Bool := match o with
 | none => false
 | some ws => Mp.sym ws
def graph_Valid.val (ids : List Int) (ps : List (List S41)) : Bool :=
 if (ps.length : Int) < 1 then false else if (ps.length : Int) > 24 then false else if (ids.length : Int) = (ps.length : Int) then (graph_Valid.ids [] ids && graph_Valid.fin (graph_Valid.rows (ps.length : Int) 0 [] ps)) else false
def graph_Valid.f (l0_0 : List Int) (l0_1 : List (List S41)) : Option Bool :=
 if (l0_0.all fun x => (Lit.int .i64 x).wf) && l0_1.all (fun r => decide (r.length ≤ 1000000) && r.all fun l => (Lit.int .i64 l.f0).wf && (Lit.int .i64 l.f1).wf) then some (graph_Valid.val l0_0 l0_1) else none
theorem graph_Valid.rowAt {w : World} {A : Option Addr} {n : Nat} {xs : List (List S41)} (h : Kd.C (Kd.slice 41 k41) w A n xs) (i : Nat) (h1 : i < xs.length) (h2 : i < n) : ∃ ad A0 c0, A = some ad ∧ w.cell? (ad.add i) = some (.slice A0 (xs[i]).length c0) ∧ (xs[i]).length ≤ c0 ∧ k41.C w A0 (xs[i]).length xs[i] := by
 obtain ⟨ad, c, e, _, hK, hc0⟩ := Kd.C_get h ([] : List S41) (i : Int) (by omega) (by omega)
 have hc : ∀ j u, c[j]? = some u → w.cell? (ad.add (i * 1 + j)) = some u := hc0
 have ex : xs.getD ((i : Int)).toNat ([] : List S41) = xs[i] := by rw [Int.toNat_natCast, List.getD_eq_getElem?_getD, List.getElem?_eq_getElem h1]; rfl
 rw [ex] at hK
 obtain ⟨A0, c0, rfl, l0, g0⟩ := hK
 exact ⟨ad, A0, c0, e, by have hq := hc 0 _ rfl; rwa [Nat.mul_one, Nat.add_zero] at hq, l0, g0⟩
theorem graph_Valid.zeroB : ∀ w, (zeroValue 4).run Tryd.prog w = .ok (.bool false) w := fun w => by kernel_rfl
theorem graph_Valid.zeroI : ∀ w, (zeroValue 3).run Tryd.prog w = .ok (.int .i64 0) w := fun w => by kernel_rfl
theorem graph_Valid.pairs : Mp.PairKey Tryd.prog 69 :=
 Mp.pairKey (by kernel_rfl) Tryd.underlying69 rfl rfl rfl rfl rfl (by decide) (by decide) Tryd.underlying3 (by kernel_rfl) (by kernel_rfl) (by kernel_rfl) (by kernel_rfl) (of_decide_eq_true (by kernel_rfl)) (m := Tryd.prog.types.size - 1) (by kernel_rfl)
set_option maxHeartbeats 8000000 in
set_option maxRecDepth 100000 in
theorem graph_Valid.calls (A0_0 : Option Addr) (c0_0 : Nat) (l0_0 : List Int) (A0_1 : Option Addr) (c0_1 : Nat) (l0_1 : List (List (S41))) (r : Bool) (w : World) (hr0_0 : Kd.C (Kd.int .i64) w A0_0 l0_0.length l0_0) (hc0_0 : l0_0.length ≤ c0_0) (hr0_1 : Kd.C (Kd.slice 41 k41) w A0_1 l0_1.length l0_1) (hc0_1 : l0_1.length ≤ c0_1) (h : graph_Valid.f l0_0 l0_1 = some r) :
  Calls Tryd.prog 22 #[.agg #[.slice A0_0 l0_0.length c0_0, .slice A0_1 l0_1.length c0_1]] w fun e w' => e = .returned (.bool r) ∧ Below w.heap.size w w' := by
 have HR0_0 := Aside0.mk hr0_0
 have HR0_1 := Aside0.mk hr0_1
 clear hr0_0 hr0_1;have HB := Aside0.mk (Below.refl w.heap.size w)
 unfold graph_Valid.f at h
 split at h
 case isFalse => cases h
 rename_i hwf
 rw [Bool.and_eq_true] at hwf
 have WI := Aside0.mk (List.all_eq_true.mp hwf.1)
 have WP := Aside0.mk (List.all_eq_true.mp hwf.2)
 clear hwf;have HV := Aside0.mk (Option.some.inj h)
 clear h;go_enter Tryd.func22, Tryd.ntmps22
 go_upto_region 1 with (first | ((with_reducible refine gate_dst (N := 1) rfl ?_); (try (refine gate_guard (by rfl) ?_; dsimp only)); refine box_event ?hg (N := 1) ?hd (cs := #[.slice A0_0 l0_0.length c0_0, .slice A0_1 l0_1.length c0_1]) (t := 26) ?hr ?_; (case hd => rfl); (case hg => rfl); (case hr => first | (go_simp; done) | (go_simp; rfl)); intro gb hg w3 hbox hb; have n0_ := Aside0.mk (below_step (by repeat (first | (with_reducible first | exact HB.out | apply below_alloc | apply pw_below_drewN | apply below_drew1) | exact HB.out)) hb); have GE := Aside0.mk ((by rw [hg]; exact (below_size (by repeat (first | (with_reducible first | exact HB.out | apply below_alloc | apply pw_below_drewN | apply below_drew1) | exact HB.out)))) : w.heap.size ≤ gb); clear HB; have HB := n0_; have BK := Aside0.mk hbox; clear n0_ hg hbox hb))
 (try simp only [Act.put, List.setIfInBounds_toArray, List.set_cons_zero, List.set_cons_succ])
 have hcz_0 : w3.cell? ⟨gb, 0, none⟩ = some (.slice A0_0 l0_0.length c0_0) := (blk_cell BK.out 0).trans rfl
 have hcz_1 : w3.cell? ⟨gb, 1, none⟩ = some (.slice A0_1 l0_1.length c0_1) := (blk_cell BK.out 1).trans rfl
 by_cases c1 : (l0_1.length : Int) < 1
 ·obtain rfl : r = false := by rw [← HV.out]; unfold graph_Valid.val; rw [if_pos c1]
  have c1b : decide ((l0_1.length : Int) < 1) = true := decide_eq_true c1
  clear c1;go_wp2
  go_ret
  exact ⟨rfl, by repeat (first | (with_reducible first | exact HB.out | apply below_alloc | apply pw_below_drewN | apply below_drew1) | exact HB.out)⟩
 have c1b : decide ((l0_1.length : Int) < 1) = false := decide_eq_false c1
 by_cases c2 : (l0_1.length : Int) > 24
 ·obtain rfl : r = false := by rw [← HV.out]; unfold graph_Valid.val; rw [if_neg c1, if_pos c2]
  have c2b : decide (24 < (l0_1.length : Int)) = true := decide_eq_true c2
  have c2c : decide (24 < l0_1.length) = true := decide_eq_true (by omega)
  clear c1 c2;go_wp2
  go_ret
  exact ⟨rfl, by repeat (first | (with_reducible first | exact HB.out | apply below_alloc | apply pw_below_drewN | apply below_drew1) | exact HB.out)⟩
 have c2b : decide (24 < (l0_1.length : Int)) = false := decide_eq_false c2
 have c2c : decide (24 < l0_1.length) = false := decide_eq_false (by omega)
 by_cases c3 : (l0_0.length : Int) = (l0_1.length : Int)
 case neg =>
  obtain rfl : r = false := by rw [← HV.out]; unfold graph_Valid.val; rw [if_neg c1, if_neg c2, if_neg c3]
  have c3b : ((l0_0.length : Int) != (l0_1.length : Int)) = true := bne_iff_ne.mpr c3
  have c3c : (l0_0.length == l0_1.length) = false := beq_eq_false_iff_ne.mpr (by omega)
  have c3d : (l0_0.length != l0_1.length) = true := bne_iff_ne.mpr (by omega)
  clear c1 c2 c3;go_wp2
  go_ret
  exact ⟨rfl, by repeat (first | (with_reducible first | exact HB.out | apply below_alloc | apply pw_below_drewN | apply below_drew1) | exact HB.out)⟩
 have H0 : Aside0 ((graph_Valid.ids [] l0_0 && graph_Valid.fin (graph_Valid.rows (l0_1.length : Int) 0 [] l0_1)) = r) := ⟨by rw [← HV.out]; unfold graph_Valid.val; rw [if_neg c1, if_neg c2, if_pos c3]⟩
 have L24 : Aside0 (l0_1.length ≤ 24 ∧ l0_0.length = l0_1.length) := ⟨by omega⟩
 have c3b : ((l0_0.length : Int) != (l0_1.length : Int)) = false := bne_eq_false_iff_eq.mpr c3
 have c3c : (l0_0.length == l0_1.length) = true := beq_iff_eq.mpr (by omega)
 have c3d : (l0_0.length != l0_1.length) = false := bne_eq_false_iff_eq.mpr (by omega)
 clear c1 c2 c3 HV;go_wp2_with ((with_reducible refine gate_dst (N := 31) rfl ?_); refine Mp.wp_makeMap rfl 66 rfl ?_; intro bm hbm w4 hw4; have GEm := Aside0.mk ((by rw [hbm]; exact below_size HB.out) : w.heap.size ≤ bm); have IBm := Aside0.mk ((by rw [hw4, hbm]; exact Mp.IB.made _ _ _ _) : Mp.IB Tryd.prog 3 4 w4 bm 0 (fun _ => false)); have hb4 : Below w3.heap.size w3 w4 := (by rw [hw4]; exact below_alloc (Below.refl _ _) _); have BK4 := Aside0.mk ((hb4.block gb (blk_lt BK.out)).trans BK.out); have n0_ := Aside0.mk (below_step HB.out hb4); clear HB BK hcz_0 hcz_1; have HB := n0_; have BK := BK4; clear n0_ BK4 hb4 hw4 hbm; have hcz_0 : w4.cell? ⟨gb, 0, none⟩ = some (.slice A0_0 l0_0.length c0_0) := (blk_cell BK.out 0).trans rfl)
 clear c1b c2b c2c c3b c3c c3d;go_loopg [35] l0_0.length (fun kq v35 w' => ∃ (j : Nat) (seen : List Int), v35 = .int .i64 (j : Int) ∧ Aside0 (j + kq = l0_0.length) ∧ Aside0 ((graph_Valid.ids seen (l0_0.drop j) && graph_Valid.fin (graph_Valid.rows (l0_1.length : Int) 0 [] l0_1)) = r) ∧ Aside0 (Mp.IB Tryd.prog 3 4 w' bm j (fun u => seen.contains u)) ∧ Aside0 (w'.heap[gb]? = some (.cells #[.slice A0_0 l0_0.length c0_0, .slice A0_1 l0_1.length c0_1] 26 (0, 0))) ∧ Aside0 (Below w.heap.size w w'))
 case atStart => exact ⟨0, [], rfl, ⟨by omega⟩, H0, ⟨IBm.out⟩, BK, HB⟩
 case round =>
  clear H0 IBm BK HB hcz_0;obtain ⟨j, seen, rfl, HJ, HA, IBm, BK, HB⟩ := hrel
  cases gk with
  | zero =>
   obtain rfl : j = l0_0.length := by have := HJ.out; omega
   have cl1 : decide ((l0_0.length : Int) < (l0_0.length : Int)) = false := decide_eq_false (by omega)
   have H := HA.out
   rw [List.drop_length, graph_Valid.ids, Bool.true_and] at H
   have H0 := Aside0.mk H
   clear HA H HJ IBm;have hcz_1 : wr.cell? ⟨gb, 1, none⟩ = some (.slice A0_1 l0_1.length c0_1) := (blk_cell BK.out 1).trans rfl
   have GS := Aside0.mk (blk_lt BK.out)
   go_wp2_with ((with_reducible refine gate_dst (N := 53) rfl ?_); refine Mp.wp_makeMap rfl 67 rfl ?_; intro bp hbp w4 hw4; have GEp := Aside0.mk ((by rw [hbp]; exact below_size HB.out) : w.heap.size ≤ bp); have IPm := Aside0.mk ((by rw [hw4, hbp]; exact Mp.PI.made _ _ _ _) : Mp.PI Tryd.prog 69 3 w4 bp 0 []); have hb4 : Below wr.heap.size wr w4 := (by rw [hw4]; exact below_alloc (Below.refl _ _) _); have n0_ := Aside0.mk (below_step HB.out hb4); have hcz_2 : w4.cell? ⟨gb, 1, none⟩ = some (.slice A0_1 l0_1.length c0_1) := (hb4.cell GS.out).trans hcz_1; clear HB BK hcz_1; have HB := n0_; clear n0_ hb4 hw4 hbp)
   clear hcz_2 cl1 GS;go_loopg [57] l0_1.length (fun kq v57 w' => ∃ (v : Nat) (ws : List (Int × Int × Int)) (m : Nat), v57 = .int .i64 (v : Int) ∧ Aside0 (v + kq = l0_1.length) ∧ Aside0 (graph_Valid.fin (graph_Valid.rows (l0_1.length : Int) (v : Int) ws (l0_1.drop v)) = r) ∧ Aside0 (m ≤ v * 1000000) ∧ Aside0 (∀ t ∈ ws, Mp.W2 t.1 t.2.1) ∧ Aside0 (Mp.PI Tryd.prog 69 3 w' bp m ws) ∧ Aside0 (Below w.heap.size w w'))
   case atStart => exact ⟨0, [], 0, rfl, ⟨by omega⟩, H0, ⟨by omega⟩, ⟨fun t ht => by cases ht⟩, IPm, HB⟩
   case round =>
    clear H0 IPm HB;obtain ⟨v, ws, m, rfl, HJ, HA, HM, HW, IPm, HB⟩ := hrel
    cases gk with
    | zero =>
     obtain rfl : v = l0_1.length := by have := HJ.out; omega
     have cl1 : decide ((l0_1.length : Int) < (l0_1.length : Int)) = false := decide_eq_false (by omega)
     have H := HA.out
     rw [List.drop_length, graph_Valid.rows] at H
     have H0 : Aside0 (Mp.sym ws = r) := ⟨H⟩
     clear HA H HJ;go_wp2_with (at_range; refine Mp.wp_PI_range rfl (.tmp 109) 67 rfl graph_Valid.pairs Tryd.underlying67 rfl IPm.out ?_; intro w5 cnt hpr hg5 hs5; obtain ⟨br, hbr⟩ : ∃ br, br = wr.heap.size := ⟨_, rfl⟩; rw [← hbr] at hpr ⊢; have PRm := Aside0.mk hpr; have hb5 : Below wr.heap.size wr w5 := ⟨hg5.os, hg5.tape, hg5.output, hg5.size, fun k hk => hg5.block k hk (by simp)⟩; have GEr := Aside0.mk ((by rw [hbr]; exact below_size HB.out) : w.heap.size ≤ br); have n0_ := Aside0.mk (below_step HB.out hb5); clear HB IPm hpr hg5 hs5 hb5 hbr; have HB := n0_; clear n0_)
     go_frame
     clear cl1;go_loopg [111] cnt (fun kq v111 w' => Aside0 (Mp.PR Tryd.prog 69 3 w' bp br m ws kq) ∧ Aside0 (Below w.heap.size w w'))
     case atStart => exact ⟨PRm, HB⟩
     case round =>
      clear PRm HB;obtain ⟨PRm, HB⟩ := hrel
      go_wp2_with (at_next; refine Mp.wp_PR_next rfl (.tmp 110) rfl graph_Valid.pairs Tryd.underlying3 rfl HW.out PRm.out ?_ ?_; all_goals (first | (intro x y w6 cnt2 hw2 hh hpr hlt hg6 hs6 hen hlk2; have hen1 := hen w6 rfl; simp only [Mp.pv] at hen1; have hb6 := Aside0.mk (Mp.below_row HB.out hg6 GEr.out (below_size HB.out)); have HPR := Aside0.mk hpr; have hl3 : ∀ o, (Instr.lookup 67 (.map (some bp)) (.agg #[.int .i64 y, .int .i64 x]) false).run Tryd.prog (w6.alloc o) = .ok (.int .i64 (Mp.lk ws y x)) (w6.alloc o) := (fun o => hlk2 (w6.alloc o) ((below_alloc (Below.refl _ _) o).block bp (by have := PRm.out.lt.1; omega)) _ Tryd.underlying67 graph_Valid.zeroI y x ⟨hw2.2, hw2.1⟩); have HLT := Aside0.mk hlt; have HH := Aside0.mk hh; clear hen hlk2 hpr hlt hh hw2 hg6 hs6 HB PRm; have HB := hb6; clear hb6; simp only [Mp.pv]; by_cases heq : Mp.lk ws y x = Mp.lk ws x y; all_goals (have HEQ := Aside0.mk heq; first | have heq1 : (Mp.lk ws y x != Mp.lk ws x y) = false := bne_eq_false_iff_eq.mpr heq | have heq1 : (Mp.lk ws y x != Mp.lk ws x y) = true := bne_iff_ne.mpr heq); all_goals clear heq) | (intro hsym; have HS := Aside0.mk hsym; clear hsym)))
      ·go_ret
       obtain rfl : r = true := H0.out.symm.trans HS.out
       exact ⟨rfl, by repeat (first | (with_reducible first | exact HB.out | apply below_alloc | apply pw_below_drewN | apply below_drew1) | exact HB.out)⟩
      ·cases gk with
       | zero => exact absurd HLT.out (Nat.not_lt_zero _)
       | succ k1 =>
        go_roundg cnt2
        case measure => exact HLT.out
        case rel =>
         have hpr := HPR.out HEQ.out
         exact ⟨⟨hpr.move ((below_alloc (Below.refl _ _) _).block bp hpr.lt.1) ((below_alloc (Below.refl _ _) _).block br hpr.lt.2)⟩, ⟨by repeat (first | (with_reducible first | exact HB.out | apply below_alloc | apply pw_below_drewN | apply below_drew1) | exact HB.out)⟩⟩
      ·go_ret
       obtain rfl : r = false := H0.out.symm.trans (Mp.sym_false HH.out HEQ.out)
       exact ⟨rfl, by repeat (first | (with_reducible first | exact HB.out | apply below_alloc | apply pw_below_drewN | apply below_drew1) | exact HB.out)⟩
    | succ k1 =>
     have hlt : v < l0_1.length := by have := HJ.out; omega
     have cl1 : decide ((v : Int) < (l0_1.length : Int)) = true := decide_eq_true (by omega)
     have cl2 : decide (v < l0_1.length) = true := decide_eq_true hlt
     obtain ⟨ad, A0, cc0, e305, hx0, hcap, hrow⟩ := graph_Valid.rowAt HR0_1.out v hlt hlt
     cases e305;replace hx0 := (HB.out.cell (World.block_lt_of_cell? w _ hx0)).trans hx0
     have HROW := Aside0.mk hrow
     have HQ := Aside0.mk (WP.out _ (List.getElem_mem hlt))
     have H := HA.out
     rw [List.drop_eq_getElem_cons hlt, graph_Valid.rows] at H
     have HLT := Aside0.mk hlt
     clear HA hrow hcap;generalize l0_1[v] = row at *
     clear hlt;have HA := Aside0.mk H
     clear H;have p305 : (0 ≤ (v : Int)) = True := eq_true (by omega)
     have q305 : ((v : Int) < (l0_1.length : Int)) = True := eq_true (by have := HLT.out; omega)
     have q306 : (v < l0_1.length) = True := eq_true HLT.out
     have RL := Aside0.mk (show row.length ≤ 1000000 ∧ ∀ l ∈ row, (Lit.int .i64 l.f0).wf = true ∧ (Lit.int .i64 l.f1).wf = true from (by have := HQ.out; simp only [Bool.and_eq_true, decide_eq_true_eq, List.all_eq_true] at this; exact this))
     clear HQ;go_wp2
     clear hx0 cl1 cl2;go_loopg [64] row.length (fun kq v64 w' => ∃ (i : Nat) (ws : List (Int × Int × Int)) (m : Nat), v64 = .int .i64 (i : Int) ∧ Aside0 (i + kq = row.length) ∧ Aside0 (graph_Valid.fin ((graph_Valid.row (l0_1.length : Int) (v : Int) ws (row.drop i)).bind fun ws1 => graph_Valid.rows (l0_1.length : Int) ((v : Int) + 1) ws1 (l0_1.drop (v + 1))) = r) ∧ Aside0 (m ≤ v * 1000000 + i) ∧ Aside0 (∀ t ∈ ws, Mp.W2 t.1 t.2.1) ∧ Aside0 (Mp.PI Tryd.prog 69 3 w' bp m ws) ∧ Aside0 (Below w.heap.size w w'))
     case atStart => exact ⟨0, ws, m, rfl, ⟨Nat.zero_add _⟩, ⟨by rw [List.drop_zero]; exact HA.out⟩, ⟨Nat.le_trans HM.out (Nat.le_add_right _ _)⟩, HW, IPm, HB⟩
     case round =>
      clear HA HM HW IPm HB ws m;obtain ⟨i, ws, m, rfl, HI, HA, HM, HW, IPm, HB⟩ := hrel
      cases gk with
      | zero =>
       obtain rfl : i = row.length := by have := HI.out; omega
       have cl1 : decide ((row.length : Int) < (row.length : Int)) = false := decide_eq_false (by omega)
       have H := HA.out
       rw [List.drop_length, graph_Valid.row, Option.bind_some] at H
       have H' := Aside0.mk H
       clear HA H;go_wp2
       go_roundg k1
       case measure => omega
       case rel => exact ⟨v + 1, ws, m, congrArg (Value.int .i64) (by have := HLT.out; have := L24.out; unfold wrap64; omega : wrap64 ((v : Int) + 1) = ((v + 1 : Nat) : Int)), ⟨by have := HJ.out; omega⟩, H', ⟨by have := HM.out; have := RL.out.1; omega⟩, HW, IPm, HB⟩
      | succ k2 =>
       have hlt : i < row.length := by have := HI.out; omega
       have cl1 : decide ((i : Int) < (row.length : Int)) = true := decide_eq_true (by omega)
       have cl2 : decide (i < row.length) = true := decide_eq_true hlt
       obtain ⟨ad2, e306, hx0, hx1⟩ := at_T41 HROW.out (i : Int) (by omega) (by omega)
       cases e306;replace hx0 := (HB.out.cell (World.block_lt_of_cell? w _ hx0)).trans hx0
       replace hx1 := (HB.out.cell (World.block_lt_of_cell? w _ hx1)).trans hx1
       have ex : rd_T41 row (i : Int) = row[i] := by unfold rd_T41; rw [Int.toNat_natCast, List.getD_eq_getElem?_getD, List.getElem?_eq_getElem hlt]; rfl
       rw [ex, Int.toNat_natCast] at hx0 hx1
       have WL := Aside0.mk (RL.out.2 _ (List.getElem_mem hlt))
       have H := HA.out
       rw [List.drop_eq_getElem_cons hlt, graph_Valid.row] at H
       have HLT2 := Aside0.mk hlt
       clear HA ex;generalize row[i] = x at *
       obtain ⟨t0, wt⟩ := x
       clear hlt;simp only at hx0 hx1 H WL
       have p306 : (0 ≤ (i : Int)) = True := eq_true (by omega)
       have q307 : ((i : Int) < (row.length : Int)) = True := eq_true (by have := HLT2.out; omega)
       have q308 : (i < row.length) = True := eq_true HLT2.out
       have IP2 : ∀ o1 o2, Mp.PI Tryd.prog 69 3 ((wr.alloc o1).alloc o2) bp m ws := fun o1 o2 => IPm.out.below (below_alloc (below_alloc (Below.refl _ _) _) _)
       have W2v : Mp.W2 (v : Int) t0 := ⟨Mp.wf_i64 (by omega) (by have := HLT.out; have := L24.out; omega), WL.out.1⟩
       have hlk : ∀ o1 o2, (Instr.lookup 67 (.map (some bp)) (.agg #[.int .i64 (v : Int), .int .i64 t0]) false).run Tryd.prog ((wr.alloc o1).alloc o2) = .ok (.int .i64 (Mp.lk ws (v : Int) t0)) ((wr.alloc o1).alloc o2) := fun o1 o2 => (IP2 o1 o2).look graph_Valid.pairs Tryd.underlying3 Tryd.underlying67 graph_Valid.zeroI W2v
       have IPP := Aside0.mk IP2
       have WV := Aside0.mk W2v
       clear IP2 W2v;by_cases d1 : t0 < 0
       ·rw [if_pos d1] at H
        obtain rfl : r = false := H.symm
        have d1b : decide (t0 < 0) = true := decide_eq_true d1
        clear d1 H;go_wp2
        go_ret
        exact ⟨rfl, by repeat (first | (with_reducible first | exact HB.out | apply below_alloc | apply pw_below_drewN | apply below_drew1) | exact HB.out)⟩
       rw [if_neg d1] at H
       have d1b : decide (t0 < 0) = false := decide_eq_false d1
       clear d1;by_cases d2 : t0 ≥ (l0_1.length : Int)
       ·rw [if_pos d2] at H
        obtain rfl : r = false := H.symm
        have d2b : decide ((l0_1.length : Int) ≤ t0) = true := decide_eq_true d2
        clear d2 H;go_wp2
        go_ret
        exact ⟨rfl, by repeat (first | (with_reducible first | exact HB.out | apply below_alloc | apply pw_below_drewN | apply below_drew1) | exact HB.out)⟩
       rw [if_neg d2] at H
       have d2b : decide ((l0_1.length : Int) ≤ t0) = false := decide_eq_false d2
       clear d2;by_cases d3 : t0 = (v : Int)
       ·rw [if_pos d3] at H
        obtain rfl : r = false := H.symm
        have d3b : (t0 == (v : Int)) = true := beq_iff_eq.mpr d3
        clear d3 H;go_wp2
        go_ret
        exact ⟨rfl, by repeat (first | (with_reducible first | exact HB.out | apply below_alloc | apply pw_below_drewN | apply below_drew1) | exact HB.out)⟩
       rw [if_neg d3] at H
       have d3b : (t0 == (v : Int)) = false := beq_eq_false_iff_ne.mpr d3
       clear d3;by_cases d4 : wt < 1
       ·rw [if_pos d4] at H
        obtain rfl : r = false := H.symm
        have d4b : decide (wt < 1) = true := decide_eq_true d4
        clear d4 H;go_wp2
        go_ret
        exact ⟨rfl, by repeat (first | (with_reducible first | exact HB.out | apply below_alloc | apply pw_below_drewN | apply below_drew1) | exact HB.out)⟩
       rw [if_neg d4] at H
       have d4b : decide (wt < 1) = false := decide_eq_false d4
       clear d4;by_cases d5 : wt > 15
       ·rw [if_pos d5] at H
        obtain rfl : r = false := H.symm
        have d5b : decide (15 < wt) = true := decide_eq_true d5
        clear d5 H;go_wp2
        go_ret
        exact ⟨rfl, by repeat (first | (with_reducible first | exact HB.out | apply below_alloc | apply pw_below_drewN | apply below_drew1) | exact HB.out)⟩
       rw [if_neg d5] at H
       have d5b : decide (15 < wt) = false := decide_eq_false d5
       clear d5;by_cases d6 : Mp.lk ws (v : Int) t0 = 0
       case neg =>
        rw [if_neg d6] at H
        obtain rfl : r = false := H.symm
        have d6b : (Mp.lk ws (v : Int) t0 != 0) = true := bne_iff_ne.mpr d6
        have d6c : (Mp.lk ws (v : Int) t0 == 0) = false := beq_eq_false_iff_ne.mpr d6
        clear d6 H;go_wp2
        go_ret
        exact ⟨rfl, by repeat (first | (with_reducible first | exact HB.out | apply below_alloc | apply pw_below_drewN | apply below_drew1) | exact HB.out)⟩
       rw [if_pos d6] at H
       have d6b : (Mp.lk ws (v : Int) t0 != 0) = false := bne_eq_false_iff_eq.mpr d6
       have d6c : (Mp.lk ws (v : Int) t0 == 0) = true := beq_iff_eq.mpr d6
       have H' := Aside0.mk H
       clear H d6
       go_wp2_with (at_mapUpdate; refine Mp.wp_PI_put rfl (.tmp 103) (.tmp 104) (.tmp 106) 67 rfl ws graph_Valid.pairs Tryd.underlying3 Tryd.underlying67 rfl (v : Int) t0 wt rfl rfl WV.out WL.out.2 (IPP.out _ _) ?hn ?_; (case hn => have := HLT.out; have := L24.out; have := HM.out; have := HLT2.out; have := RL.out.1; unfold maxLen; omega); intro w5 hib hg5; have n1_ := Aside0.mk hib; have n3_ := Aside0.mk (Mp.below_row (w := (wr.alloc (.cells #[.int .i64 t0, .int .i64 wt] 41)).alloc (.cells #[.int .i64 (v : Int), .int .i64 t0] 69)) (by repeat (first | (with_reducible first | exact HB.out | apply below_alloc | apply pw_below_drewN | apply below_drew1) | exact HB.out)) hg5 GEp.out (below_size (by repeat (first | (with_reducible first | exact HB.out | apply below_alloc | apply pw_below_drewN | apply below_drew1) | exact HB.out)))); clear IPm HB hlk hib hg5 IPP; have IPm := n1_; have HB := n3_; clear n1_ n3_)
       go_roundg k2
       case measure => omega
       case rel => exact ⟨i + 1, ((v : Int), t0, wt) :: ws, m + 1, congrArg (Value.int .i64) (by have := HLT2.out; have := RL.out.1; unfold wrap64; omega : wrap64 ((i : Int) + 1) = ((i + 1 : Nat) : Int)), ⟨by have := HI.out; omega⟩, H', ⟨by have := HM.out; omega⟩, ⟨fun t ht => (List.mem_cons.1 ht).elim (fun e => e ▸ WV.out) (HW.out t)⟩, IPm, HB⟩
  | succ k1 =>
   have hlt : j < l0_0.length := by have := HJ.out; omega
   have cl1 : decide ((j : Int) < (l0_0.length : Int)) = true := decide_eq_true (by omega)
   have cl2 : decide (j < l0_0.length) = true := decide_eq_true hlt
   have HD := Aside0.mk (List.drop_eq_getElem_cons hlt)
   obtain ⟨ad, e305, hx0⟩ := Kd.at_int HR0_0.out (j : Int) (by omega) (by omega)
   cases e305;replace hx0 := (HB.out.cell (World.block_lt_of_cell? w _ hx0)).trans hx0
   have ex : rd l0_0 (j : Int) = l0_0[j] := by unfold rd; rw [Int.toNat_natCast, List.getD_eq_getElem?_getD, List.getElem?_eq_getElem hlt]; rfl
   rw [ex, Int.toNat_natCast] at hx0
   have WX := Aside0.mk (WI.out _ (List.getElem_mem hlt))
   have H := HA.out
   rw [HD.out, graph_Valid.ids] at H
   clear HA HD ex;have HLT := Aside0.mk hlt
   generalize l0_0[j] = x at *
   clear hlt;have p305 : (0 ≤ (j : Int)) = True := eq_true (by omega)
   have q305 : ((j : Int) < (l0_0.length : Int)) = True := eq_true (by have := HLT.out; omega)
   have q306 : (j < l0_0.length) = True := eq_true HLT.out
   by_cases d1 : x < 0
   ·rw [if_pos d1, Bool.false_and] at H
    subst H;have d1b : decide (x < 0) = true := decide_eq_true d1
    clear d1;go_wp2
    go_ret
    exact ⟨rfl, by repeat (first | (with_reducible first | exact HB.out | apply below_alloc | apply pw_below_drewN | apply below_drew1) | exact HB.out)⟩
   rw [if_neg d1] at H
   have d1b : decide (x < 0) = false := decide_eq_false d1
   clear d1;by_cases d2 : x > 255
   ·rw [if_pos d2, Bool.false_and] at H
    subst H;have d2b : decide (255 < x) = true := decide_eq_true d2
    clear d2;go_wp2
    go_ret
    exact ⟨rfl, by repeat (first | (with_reducible first | exact HB.out | apply below_alloc | apply pw_below_drewN | apply below_drew1) | exact HB.out)⟩
   rw [if_neg d2] at H
   have d2b : decide (255 < x) = false := decide_eq_false d2
   clear d2;have hlook := IBm.out.look Tryd.underlying3 Tryd.underlying4 Tryd.underlying66 graph_Valid.zeroB WX.out
   cases hs : seen.contains x with
   | true =>
    rw [hs] at H hlook
    rw [if_pos rfl, Bool.false_and] at H
    subst H;clear hs;go_wp2
    go_ret
    exact ⟨rfl, by repeat (first | (with_reducible first | exact HB.out | apply below_alloc | apply pw_below_drewN | apply below_drew1) | exact HB.out)⟩
   | false =>
    rw [hs] at H hlook
    rw [if_neg (by decide)] at H
    clear hs;have H' := Aside0.mk H
    clear H;go_wp2_with (at_mapUpdate; refine Mp.wp_IB_put rfl (.tmp 50) (.tmp 51) (.const (.bool true)) 66 rfl _ Tryd.underlying3 Tryd.underlying4 Tryd.underlying66 rfl x true rfl rfl WX.out IBm.out ?hn ?_; (case hn => have := HLT.out; have := L24.out; unfold maxLen; omega); intro w5 hib hg5; have n1_ := Aside0.mk hib.seen; have hne : gb ≠ bm := (by rintro rfl; obtain ⟨D, ⟨es, clock, h1, _⟩, _⟩ := IBm.out; have h2 := BK.out; rw [h1] at h2; cases h2); have n2_ := Aside0.mk ((hg5.block gb (blk_lt BK.out) (fun e => hne (by injection e))).trans BK.out); have n3_ := Aside0.mk (Mp.below_row HB.out hg5 GEm.out (below_size HB.out)); clear IBm BK HB hlook hib hg5 hne hx0; have IBm := n1_; have BK := n2_; have HB := n3_; clear n1_ n2_ n3_)
    go_roundg k1
    case measure => omega
    case rel => exact ⟨j + 1, x :: seen, congrArg (Value.int .i64) (by have := HLT.out; have := L24.out; unfold wrap64; omega : wrap64 ((j : Int) + 1) = ((j + 1 : Nat) : Int)), ⟨by have := HJ.out; omega⟩, H', IBm, BK, HB⟩
end Go.Proofs.YtinfejpkjddbiaaDoor.P
