/- Part of the proof of the law GraphtextWritesBack: P9. -/
import Derived.Test.YtinfejpkjddbiaaDoorGraphtextWritesBackP0
import Derived.Test.YtinfejpkjddbiaaDoorGraphtextWritesBackP3
import Derived.Test.YtinfejpkjddbiaaDoorGraphtextWritesBackP5
import Derived.Test.YtinfejpkjddbiaaDoorGraphtextWritesBackP7
import Derived.Test.YtinfejpkjddbiaaDoorGraphtextWritesBackPk
namespace Go.Proofs.YtinfejpkjddbiaaDoor.P
open Go.Proofs.YtinfejpkjddbiaaDoor.Pk
open Go.RowKit Go.Proofs.YtinfejpkjddbiaaDoorW.PrintWords Go.Proofs.YtinfejpkjddbiaaDoorW.PrintLast Go.Proofs.YtinfejpkjddbiaaDoorW.PrintMore
attribute [local go_sem] max2_int min2_int max_two min_two max_three min_three max_four min_four
set_option linter.unusedVariables false
set_option linter.unusedSimpArgs false
def graphtext_Format.row : List S41 → List UInt8
 | [] => []
 | l :: r => (([32] ++ Lib.itoa l.f0) ++ [47] ++ Lib.itoa l.f1) ++ graphtext_Format.row r
def graphtext_Format.text : List Int → List (List S41) → List UInt8
 | x :: ids, r :: ps => ([110, 111, 100, 101, 32] ++ Lib.itoa x) ++ (graphtext_Format.row r ++ ([10] ++ graphtext_Format.text ids ps))
 | _, _ => []
def graphtext_Format.f (l0_0 : List Int) (l0_1 : List (List S41)) : Option (ByteArray × Int) :=
 (graph_Valid.f l0_0 l0_1).bind fun v => if v = true then (if l0_0.length = l0_1.length ∧ l0_1.length ≤ 1000000 ∧ (graphtext_Format.text l0_0 l0_1).length ≤ 1000000 then some (⟨(graphtext_Format.text l0_0 l0_1).toArray⟩, 0) else none) else some (⟨#[]⟩, 1)
theorem graphtext_Format.itoa (n : Int) (h : (Lit.int .i64 n).wf = true) (w : World) (hshp : Shp w) : Calls Tryd.prog 30 #[.int .i64 n] w fun e w' => e = .returned (.string ⟨(Lib.itoa n).toArray⟩) ∧ Below w.heap.size w w' := by
 have hb : -9223372036854775808 ≤ n ∧ n ≤ 9223372036854775807 := by
  simp only [Lit.wf, Bool.and_eq_true, decide_eq_true_eq] at h
  exact ⟨h.1, h.2⟩
 refine (Tryd.strconv_Itoa n hb.1 hb.2 w hshp.tab).mono ?_
 rintro e w' ⟨rfl, k, os, rfl⟩
 exact ⟨rfl, Lib.below_grow _ w (Nat.le_refl _) k os⟩
theorem graphtext_Format.rowAt {w : World} {A : Option Addr} {n : Nat} {xs : List (List S41)} (h : Kd.C (Kd.slice 41 k41) w A n xs) (i : Nat) (h1 : i < xs.length) (h2 : i < n) : ∃ ad A0 c0, A = some ad ∧ w.cell? (ad.add i) = some (.slice A0 (xs[i]).length c0) ∧ (xs[i]).length ≤ c0 ∧ k41.C w A0 (xs[i]).length xs[i] := by
 obtain ⟨ad, c, e, _, hK, hc0⟩ := Kd.C_get h ([] : List S41) (i : Int) (by omega) (by omega)
 have hc : ∀ j u, c[j]? = some u → w.cell? (ad.add (i * 1 + j)) = some u := hc0
 have ex : xs.getD ((i : Int)).toNat ([] : List S41) = xs[i] := by rw [Int.toNat_natCast, List.getD_eq_getElem?_getD, List.getElem?_eq_getElem h1]; rfl
 rw [ex] at hK
 obtain ⟨A0, c0, rfl, l0, g0⟩ := hK
 exact ⟨ad, A0, c0, e, by have hq := hc 0 _ rfl; rwa [Nat.mul_one, Nat.add_zero] at hq, l0, g0⟩
theorem graphtext_Format.app (a b : List UInt8) : (⟨a.toArray⟩ : ByteArray) ++ ⟨b.toArray⟩ = ⟨(a ++ b).toArray⟩ := by
 have : ((⟨a.toArray⟩ : ByteArray) ++ ⟨b.toArray⟩).data = (a ++ b).toArray := by rw [ByteArray.data_append]; simp
 cases h : (⟨a.toArray⟩ : ByteArray) ++ ⟨b.toArray⟩ with
 | mk d => rw [h] at this; exact congrArg ByteArray.mk this
def graphtext_Format.T11 : Bool × List (List Nat × List Nat) := (true, [([], []), ([0], [0]), ([1], [1]), ([2], [2]), ([3], [3]), ([], []), ([5], [5]), ([6, 2], [6]), ([4, 7], [4, 7]), ([8, 7], [8])])
def graphtext_Format.B11 : List Nat := [0, 1, 3, 7, 15, 0, 32, 103, 255, 511]
theorem graphtext_Format.tab11 : rtab .any (opsOf Tryd.f18 11) = graphtext_Format.T11 := by kernel_rfl
theorem graphtext_Format.bits11 : waitsOk graphtext_Format.T11.2 graphtext_Format.B11 = true := by kernel_rfl
set_option maxHeartbeats 8000000 in
set_option maxRecDepth 100000 in
theorem graphtext_Format.calls (A0_0 : Option Addr) (c0_0 : Nat) (l0_0 : List Int) (A0_1 : Option Addr) (c0_1 : Nat) (l0_1 : List (List (S41))) (r1 : ByteArray) (r2 : Int) (w : World) (hshp : Shp w) (hr0_0 : Kd.C (Kd.int .i64) w A0_0 l0_0.length l0_0) (hc0_0 : l0_0.length ≤ c0_0) (hr0_1 : Kd.C (Kd.slice 41 k41) w A0_1 l0_1.length l0_1) (hc0_1 : l0_1.length ≤ c0_1) (h : graphtext_Format.f l0_0 l0_1 = some (r1, r2)) :
  Calls Tryd.prog 18 #[.agg #[.slice A0_0 l0_0.length c0_0, .slice A0_1 l0_1.length c0_1]] w fun e w' => e = .returned (.tuple #[.string r1, .int .i64 r2]) ∧ Below w.heap.size w w' := by
 have HSH := Aside0.mk hshp
 have HR0_0 := Aside0.mk hr0_0
 have HC0_0 := Aside0.mk hc0_0
 have HR0_1 := Aside0.mk hr0_1
 have HC0_1 := Aside0.mk hc0_1
 clear hr0_0 hc0_0 hr0_1 hc0_1 hshp;have HB := Aside0.mk (Below.refl w.heap.size w)
 unfold graphtext_Format.f at h
 obtain ⟨v, hv, h⟩ := Option.bind_eq_some_iff.mp h
 have WF := hv
 unfold graph_Valid.f at WF
 split at WF
 case isFalse => cases WF
 rename_i hwf
 rw [Bool.and_eq_true] at hwf
 have WI := Aside0.mk (List.all_eq_true.mp hwf.1)
 have WP := Aside0.mk (List.all_eq_true.mp hwf.2)
 clear hwf WF;have HV := Aside0.mk hv
 clear hv;cases v with
 | false =>
  rw [if_neg Bool.false_ne_true] at h
  obtain ⟨rfl, rfl⟩ := Prod.mk.inj (Option.some.inj h)
  clear h;go_enter Tryd.func18, Tryd.ntmps18
  go_wp2_with (first | ((with_reducible refine gate_dst (N := 1) rfl ?_); (try (refine gate_guard (by rfl) ?_; dsimp only)); refine box_event ?hg (N := 1) ?hd (cs := #[.slice A0_0 l0_0.length c0_0, .slice A0_1 l0_1.length c0_1]) (t := 26) ?hr ?_; (case hd => rfl); (case hg => rfl); (case hr => first | (go_simp; done) | (go_simp; rfl)); intro gb hg w3 hbox hb; have n0_ := Aside0.mk (below_step HB.out hb); have BK := Aside0.mk hbox; have GE := Aside0.mk ((by rw [hg]; exact below_size HB.out) : w.heap.size ≤ gb); clear HB; have HB := n0_; clear n0_ hb hbox hg; have hcz_0 : w3.cell? ⟨gb, 0, none⟩ = some (.slice A0_0 l0_0.length c0_0) := (blk_cell BK.out 0).trans rfl; have hcz_1 : w3.cell? ⟨gb, 1, none⟩ = some (.slice A0_1 l0_1.length c0_1) := (blk_cell BK.out 1).trans rfl) | ((with_reducible refine gate_callee (f := 22) rfl ?_); refine goesL_ (some 10) rfl rfl Tryd.func22 (by kernel_rfl) rfl #[.agg #[.slice A0_0 l0_0.length c0_0, .slice A0_1 l0_1.length c0_1]] rfl (by (try simp only [List.map_toArray, List.map_cons, List.map_nil]); first | done | rfl) ?_; refine (graph_Valid.calls A0_0 c0_0 l0_0 A0_1 c0_1 l0_1 false _ (Kd.C_below HR0_0.out HB.out) HC0_0.out (Kd.C_below HR0_1.out HB.out) HC0_1.out HV.out).mono ?_; rintro e w4 ⟨rfl, hb⟩; refine ⟨_, rfl, ?_⟩; have n0_ := Aside0.mk (blk_below (g := gb) (o := .cells #[.slice A0_0 l0_0.length c0_0, .slice A0_1 l0_1.length c0_1] 26 (0, 0)) BK.out hb); have n1_ := Aside0.mk (below_step HB.out hb); clear BK HB; have BK := n0_; have HB := n1_; clear n0_ n1_ hb; clear hcz_0 hcz_1; have hcz_0 : w4.cell? ⟨gb, 0, none⟩ = some (.slice A0_0 l0_0.length c0_0) := (blk_cell BK.out 0).trans rfl; have hcz_1 : w4.cell? ⟨gb, 1, none⟩ = some (.slice A0_1 l0_1.length c0_1) := (blk_cell BK.out 1).trans rfl))
  go_ret2
  exact ⟨rfl, HB.out⟩
 | true =>
 rw [if_pos rfl] at h
 split at h
 case isFalse => cases h
 rename_i hsz
 obtain ⟨rfl, rfl⟩ := Prod.mk.inj (Option.some.inj h)
 have HSZ := Aside0.mk hsz
 clear h hsz;go_enter Tryd.func18, Tryd.ntmps18
 go_wp2_with (first | ((with_reducible refine gate_dst (N := 1) rfl ?_); (try (refine gate_guard (by rfl) ?_; dsimp only)); refine box_event ?hg (N := 1) ?hd (cs := #[.slice A0_0 l0_0.length c0_0, .slice A0_1 l0_1.length c0_1]) (t := 26) ?hr ?_; (case hd => rfl); (case hg => rfl); (case hr => first | (go_simp; done) | (go_simp; rfl)); intro gb hg w3 hbox hb; have n0_ := Aside0.mk (below_step HB.out hb); have BK := Aside0.mk hbox; have GE := Aside0.mk ((by rw [hg]; exact below_size HB.out) : w.heap.size ≤ gb); clear HB; have HB := n0_; clear n0_ hb hbox hg; have hcz_0 : w3.cell? ⟨gb, 0, none⟩ = some (.slice A0_0 l0_0.length c0_0) := (blk_cell BK.out 0).trans rfl; have hcz_1 : w3.cell? ⟨gb, 1, none⟩ = some (.slice A0_1 l0_1.length c0_1) := (blk_cell BK.out 1).trans rfl) | ((with_reducible refine gate_callee (f := 22) rfl ?_); refine goesL_ (some 10) rfl rfl Tryd.func22 (by kernel_rfl) rfl #[.agg #[.slice A0_0 l0_0.length c0_0, .slice A0_1 l0_1.length c0_1]] rfl (by (try simp only [List.map_toArray, List.map_cons, List.map_nil]); first | done | rfl) ?_; refine (graph_Valid.calls A0_0 c0_0 l0_0 A0_1 c0_1 l0_1 true _ (Kd.C_below HR0_0.out HB.out) HC0_0.out (Kd.C_below HR0_1.out HB.out) HC0_1.out HV.out).mono ?_; rintro e w4 ⟨rfl, hb⟩; refine ⟨_, rfl, ?_⟩; have n0_ := Aside0.mk (blk_below (g := gb) (o := .cells #[.slice A0_0 l0_0.length c0_0, .slice A0_1 l0_1.length c0_1] 26 (0, 0)) BK.out hb); have n1_ := Aside0.mk (below_step HB.out hb); clear BK HB; have BK := n0_; have HB := n1_; clear n0_ n1_ hb; clear hcz_0 hcz_1; have hcz_0 : w4.cell? ⟨gb, 0, none⟩ = some (.slice A0_0 l0_0.length c0_0) := (blk_cell BK.out 0).trans rfl; have hcz_1 : w4.cell? ⟨gb, 1, none⟩ = some (.slice A0_1 l0_1.length c0_1) := (blk_cell BK.out 1).trans rfl) | ((with_reducible refine gate_dst (N := 4) rfl ?_); (try (refine gate_guard (by rfl) ?_; dsimp only)); refine box_event ?hg (N := 4) ?hd (cs := #[.pointer none, .slice none 0 0]) (t := 54) ?hr ?_; (case hd => rfl); (case hg => rfl); (case hr => first | (go_simp; done) | (go_simp; rfl)); intro bd hg w5 hbox hb; have n0_ := Aside0.mk (below_step HB.out hb); have n1_ := Aside0.mk ((hb.block gb (blk_lt BK.out)).trans BK.out); have IB := Aside0.mk (Bd.fresh hbox); have GB := Aside0.mk ((by rw [hg]; exact below_size HB.out) : w.heap.size ≤ bd); have GL := Aside0.mk ((by rw [hg]; exact blk_lt BK.out) : gb < bd); clear HB BK hcz_0 hcz_1; have HB := n0_; have BK := n1_; clear n0_ n1_ hb hbox hg; have hcz_0 : w5.cell? ⟨gb, 0, none⟩ = some (.slice A0_0 l0_0.length c0_0) := (blk_cell BK.out 0).trans rfl; have hcz_1 : w5.cell? ⟨gb, 1, none⟩ = some (.slice A0_1 l0_1.length c0_1) := (blk_cell BK.out 1).trans rfl))
 have H0 : Aside0 ([] ++ graphtext_Format.text (l0_0.drop 0) (l0_1.drop 0) = graphtext_Format.text l0_0 l0_1) := ⟨rfl⟩
 clear HV;go_loopg [15] l0_1.length (fun kq v15 w' => ∃ (v : Nat) (acc : List UInt8), v15 = .int .i64 (v : Int) ∧ Aside0 (v + kq = l0_1.length) ∧ Aside0 (acc ++ graphtext_Format.text (l0_0.drop v) (l0_1.drop v) = graphtext_Format.text l0_0 l0_1) ∧ Aside0 (w'.heap[gb]? = some (.cells #[.slice A0_0 l0_0.length c0_0, .slice A0_1 l0_1.length c0_1] 26 (0, 0))) ∧ Aside0 (Lib.IsBuilder 54 5 bd bd (Lib.byteCells acc) w') ∧ Aside0 (Below w.heap.size w w'))
 case atStart => exact ⟨0, [], rfl, ⟨by omega⟩, H0, BK, IB, HB⟩
 case round =>
  clear H0 BK IB HB hcz_0 hcz_1;obtain ⟨v, acc, rfl, HJ, HA, BK, IB, HB⟩ := hrel
  cases gk with
  | zero =>
   obtain rfl : v = l0_1.length := by have := HJ.out; omega
   have cl1 : decide ((l0_1.length : Int) < (l0_1.length : Int)) = false := decide_eq_false (by omega)
   have H := HA.out
   have e0 : l0_0.drop l0_1.length = [] := List.drop_of_length_le (by have := HSZ.out.1; omega)
   rw [List.drop_length, e0] at H
   have e1 : graphtext_Format.text [] [] = [] := rfl
   rw [e1, List.append_nil] at H
   clear HA e0 e1;subst H;go_wp2_with ((with_reducible refine gate_callee (f := 32) rfl ?_); refine goesL_ (some 47) rfl rfl Tryd.func32 (by kernel_rfl) rfl #[.pointer (some ⟨bd, 0, none⟩)] rfl (by (try simp only [List.map_toArray, List.map_cons, List.map_nil]); first | done | rfl) ?_; refine (Tryd.Builder_String_any bd bd _ _ IB.out (Nat.le_of_lt (Bd.ltB IB.out))).mono ?_; rintro e w9 ⟨rfl, hb⟩; refine ⟨_, rfl, ?_⟩; have n0_ := Aside0.mk ((hb.block gb GL.out).trans BK.out); have n1_ := Aside0.mk ((HB.out.trans (hb.mono GB.out) : Below w.heap.size w w9)); clear BK HB; have BK := n0_; have HB := n1_; clear n0_ n1_; clear hb IB)
   go_ret2
   exact ⟨rfl, HB.out⟩
  | succ k1 =>
   have hlt : v < l0_1.length := by have := HJ.out; omega
   have hlt0 : v < l0_0.length := by have := HSZ.out.1; omega
   have cl1 : decide ((v : Int) < (l0_1.length : Int)) = true := decide_eq_true (by omega)
   have cl2 : decide (v < l0_1.length) = true := decide_eq_true hlt
   obtain ⟨ad, A0, cc0, e305, hx0, hcap, hrow⟩ := graphtext_Format.rowAt HR0_1.out v hlt hlt
   cases e305;replace hx0 := (HB.out.cell (World.block_lt_of_cell? w _ hx0)).trans hx0
   obtain ⟨ad1, e306, hx1⟩ := Kd.at_int HR0_0.out (v : Int) (by omega) (by omega)
   cases e306;replace hx1 := (HB.out.cell (World.block_lt_of_cell? w _ hx1)).trans hx1
   have ex : rd l0_0 (v : Int) = l0_0[v] := by unfold rd; rw [Int.toNat_natCast, List.getD_eq_getElem?_getD, List.getElem?_eq_getElem hlt0]; rfl
   rw [ex, Int.toNat_natCast] at hx1
   have HROW := Aside0.mk hrow
   have HQ := Aside0.mk (WP.out _ (List.getElem_mem hlt))
   have WX := Aside0.mk (WI.out _ (List.getElem_mem hlt0))
   have H := HA.out
   rw [List.drop_eq_getElem_cons hlt, List.drop_eq_getElem_cons hlt0, graphtext_Format.text] at H
   have HLT := Aside0.mk hlt
   have HLT0 := Aside0.mk hlt0
   clear HA hrow hcap ex;generalize l0_1[v] = row at *
   generalize l0_0[v] = x at *
   clear hlt hlt0;have HTL := Aside0.mk (show (graphtext_Format.text l0_0 l0_1).length ≤ 1000000 from HSZ.out.2.2)
   have HA := Aside0.mk H
   have HL : (acc ++ ([110, 111, 100, 101, 32] ++ Lib.itoa x ++ (graphtext_Format.row row ++ ([10] ++ graphtext_Format.text (l0_0.drop (v + 1)) (l0_1.drop (v + 1)))))).length ≤ 1000000 := by rw [H]; exact HTL.out
   clear H;simp only [List.length_append] at HL
   have HLX := Aside0.mk HL
   clear HL;have p305 : (0 ≤ (v : Int)) = True := eq_true (by omega)
   have q305 : ((v : Int) < (l0_1.length : Int)) = True := eq_true (by have := HLT.out; omega)
   have q306 : (v < l0_1.length) = True := eq_true HLT.out
   have q307 : ((v : Int) < (l0_0.length : Int)) = True := eq_true (by have := HLT0.out; omega)
   have q308 : (v < l0_0.length) = True := eq_true HLT0.out
   have hcz_0 : wr.cell? ⟨gb, 0, none⟩ = some (.slice (some ad1) l0_0.length c0_0) := (blk_cell BK.out 0).trans rfl
   have RL := Aside0.mk (show row.length ≤ 1000000 ∧ ∀ l ∈ row, (Lit.int .i64 l.f0).wf = true ∧ (Lit.int .i64 l.f1).wf = true from (by have := HQ.out; simp only [Bool.and_eq_true, decide_eq_true_eq, List.all_eq_true] at this; exact this))
   clear HQ;obtain ⟨s1, hs1⟩ : ∃ s1 : ByteArray, s1 = ⟨(Lib.itoa x).toArray⟩ := ⟨_, rfl⟩
   have z1 : s1.size = (Lib.itoa x).length := by rw [hs1]; simp [ByteArray.size]
   have z2 : ((⟨#[110, 111, 100, 101, 32]⟩ : ByteArray) ++ s1).size = 5 + (Lib.itoa x).length := by rw [ByteArray.size_append, z1]; rfl
   have z3 : (9223372036854775807 < 5 + s1.size) = False := eq_false (by have := HLX.out; omega)
   have z4 : Lib.strCells ((⟨#[110, 111, 100, 101, 32]⟩ : ByteArray) ++ s1) = Lib.byteCells ([110, 111, 100, 101, 32] ++ Lib.itoa x) := by rw [hs1, show (⟨#[110, 111, 100, 101, 32]⟩ : ByteArray) = ⟨[110, 111, 100, 101, 32].toArray⟩ from rfl, graphtext_Format.app]; rfl
   have HS1 := Aside0.mk hs1
   have Z2 := Aside0.mk z2
   have Z4 := Aside0.mk z4
   clear hs1 z1 z2 z4
   go_wp2_with (first | ((with_reducible refine gate_callee (f := 30) rfl ?_); refine goesL_ (some 25) rfl rfl Tryd.func30 (by kernel_rfl) rfl #[.int .i64 x] rfl (by (try simp only [List.map_toArray, List.map_cons, List.map_nil]); first | done | rfl) ?_; refine (graphtext_Format.itoa x WX.out _ (HSH.out.below HB.out)).mono ?_; rintro e w9 ⟨rfl, hb⟩; refine ⟨_, rfl, ?_⟩; rw [← HS1.out]; have n0_ := Aside0.mk ((hb.block gb (blk_lt BK.out)).trans BK.out); have n1_ := Aside0.mk (below_step HB.out hb); have n2_ := Aside0.mk (Bd.below IB.out hb); clear BK HB IB; have BK := n0_; have HB := n1_; have IB := n2_; clear n0_ n1_ n2_ hb) | ((with_reducible refine gate_callee (f := 29) rfl ?_); refine goesL_ (some 27) rfl rfl Tryd.func29 (by kernel_rfl) rfl #[.pointer (some ⟨bd, 0, none⟩), .string ((⟨#[110, 111, 100, 101, 32]⟩ : ByteArray) ++ s1)] rfl (by (try simp only [List.map_toArray, List.map_cons, List.map_nil]); first | done | rfl) ?_; refine (Bd.writeString bd bd _ _ _ IB.out (by rw [Z2.out, Lib.byteCells_length]; have := HLX.out; omega) (Nat.le_of_lt (Bd.ltB IB.out))).mono ?_; rintro e w9 ⟨rfl, hib, hb, hk⟩; refine ⟨_, rfl, ?_⟩; rw [Z4.out, ← Lib.byteCells_append] at hib; have n0_ := Aside0.mk ((hb.block gb GL.out).trans BK.out); have n1_ := Aside0.mk ((HB.out.trans (hb.mono GB.out) : Below w.heap.size w w9)); clear BK HB; have BK := n0_; have HB := n1_; clear n0_ n1_; clear IB hb hk; have IB := Aside0.mk hib; clear hib))
   have HC0 := Aside0.mk (show (acc ++ ([110, 111, 100, 101, 32] ++ Lib.itoa x)) ++ (graphtext_Format.row (row.drop 0) ++ ([10] ++ graphtext_Format.text (l0_0.drop (v + 1)) (l0_1.drop (v + 1)))) = graphtext_Format.text l0_0 l0_1 from (by rw [List.append_assoc]; exact HA.out))
   clear HA HLX Z2 Z4 HS1 z3 hx1 hx0 hcz_0 WX cl1 cl2 p305 q305 q306 q307 q308;go_loopg [30] row.length (fun kq v30 w' => ∃ (i : Nat) (bc : List UInt8), v30 = .int .i64 (i : Int) ∧ Aside0 (i + kq = row.length) ∧ Aside0 (bc ++ (graphtext_Format.row (row.drop i) ++ ([10] ++ graphtext_Format.text (l0_0.drop (v + 1)) (l0_1.drop (v + 1)))) = graphtext_Format.text l0_0 l0_1) ∧ Aside0 (w'.heap[gb]? = some (.cells #[.slice (some ad1) l0_0.length c0_0, .slice (some ad) l0_1.length c0_1] 26 (0, 0))) ∧ Aside0 (Lib.IsBuilder 54 5 bd bd (Lib.byteCells bc) w') ∧ Aside0 (Below w.heap.size w w'))
   case atStart => exact ⟨0, _, rfl, ⟨Nat.zero_add _⟩, HC0, BK, IB, HB⟩
   case round =>
    clear HC0 BK IB HB;obtain ⟨i, bc, rfl, HI, HA, BK, IB, HB⟩ := hrel
    cases gk with
    | zero =>
     obtain rfl : i = row.length := by have := HI.out; omega
     have cl1 : decide ((row.length : Int) < (row.length : Int)) = false := decide_eq_false (by omega)
     have H := HA.out
     have e1 : graphtext_Format.row [] = [] := rfl
     rw [List.drop_length, e1, List.nil_append, ← List.append_assoc] at H
     have HN := Aside0.mk H
     have HL := Aside0.mk (show bc.length + 1 ≤ 1000000 from (by have := HTL.out; rw [← H] at this; simp only [List.length_append, List.length_singleton] at this; omega))
     clear HA H e1;go_wp2_with ((with_reducible refine gate_callee (f := 31) rfl ?_); refine goesL_ (some 45) rfl rfl Tryd.func31 (by kernel_rfl) rfl #[.pointer (some ⟨bd, 0, none⟩), .int .u8 10] rfl (by (try simp only [List.map_toArray, List.map_cons, List.map_nil]); first | done | rfl) ?_; refine (Bd.writeByte bd bd _ _ _ IB.out (by rw [Lib.byteCells_length]; have := HL.out; omega) (Nat.le_of_lt (Bd.ltB IB.out))).mono ?_; rintro e w9 ⟨rfl, hib, hb, hk⟩; refine ⟨_, rfl, ?_⟩; rw [show ([.int .u8 10] : List Value) = Lib.byteCells [10] from rfl, ← Lib.byteCells_append] at hib; have n0_ := Aside0.mk ((hb.block gb GL.out).trans BK.out); have n1_ := Aside0.mk ((HB.out.trans (hb.mono GB.out) : Below w.heap.size w w9)); clear BK HB; have BK := n0_; have HB := n1_; clear n0_ n1_; clear IB hb hk; have IB := Aside0.mk hib; clear hib)
     go_roundg k1
     case measure => omega
     case rel => exact ⟨v + 1, _, congrArg (Value.int .i64) (by have := HLT.out; have := HSZ.out.2.1; unfold wrap64; omega : wrap64 ((v : Int) + 1) = ((v + 1 : Nat) : Int)), ⟨by have := HJ.out; omega⟩, HN, BK, IB, HB⟩
    | succ k2 =>
     have hlt : i < row.length := by have := HI.out; omega
     have cl1 : decide ((i : Int) < (row.length : Int)) = true := decide_eq_true (by omega)
     have cl2 : decide (i < row.length) = true := decide_eq_true hlt
     obtain ⟨ad2, e306, hx0, hx1⟩ := at_T41 HROW.out (i : Int) (by omega) (by omega)
     cases e306;replace hx0 := (HB.out.cell (World.block_lt_of_cell? w _ hx0)).trans hx0
     replace hx1 := (HB.out.cell (World.block_lt_of_cell? w _ hx1)).trans hx1
     have ex : rd_T41 row (i : Int) = row[i] := by unfold rd_T41; rw [Int.toNat_natCast, List.getD_eq_getElem?_getD, List.getElem?_eq_getElem hlt]; rfl
     rw [ex, Int.toNat_natCast] at hx0 hx1
     have WL := Aside0.mk (RL.out.2 _ (List.getElem_mem hlt))
     have H := HA.out
     rw [List.drop_eq_getElem_cons hlt, graphtext_Format.row] at H
     have HLT2 := Aside0.mk hlt
     clear HA ex;generalize row[i] = lx at *
     obtain ⟨t0, wt⟩ := lx
     clear hlt;simp only at hx0 hx1 H WL
     have p306 : (0 ≤ (i : Int)) = True := eq_true (by omega)
     have q306 : ((i : Int) < (row.length : Int)) = True := eq_true (by have := HLT2.out; omega)
     have q307 : (i < row.length) = True := eq_true HLT2.out
     go_upto_region 11 with (fail)
     obtain ⟨bl, hbl⟩ : ∃ bl, bl = wr.heap.size := ⟨_, rfl⟩
     have GBL := Aside0.mk (show bd < bl from (by rw [hbl]; exact Bd.ltB IB.out))
     have hba : Below wr.heap.size wr (wr.alloc (Obj.cells #[Value.int IntKind.i64 t0, Value.int IntKind.i64 wt] 41)).drew := (by
      have h0 : Below wr.heap.size wr (wr.alloc (Obj.cells #[Value.int IntKind.i64 t0, Value.int IntKind.i64 wt] 41)) := below_alloc (Below.refl _ _) _
      exact ⟨h0.1, h0.2, h0.3, h0.4, h0.5⟩)
     have BL : Aside0 ((wr.alloc (Obj.cells #[Value.int IntKind.i64 t0, Value.int IntKind.i64 wt] 41)).drew.heap[bl]? = some (.cells #[.int .i64 t0, .int .i64 wt] 41 (0, 0))) := ⟨by rw [hbl]; exact blk_new wr _⟩
     have n0_ := Aside0.mk ((hba.block gb (blk_lt BK.out)).trans BK.out)
     have n1_ := Aside0.mk (below_step HB.out hba)
     have n2_ := Aside0.mk (Bd.below IB.out hba)
     clear BK HB IB;have BK := n0_
     have HB := n1_
     have IB := n2_
     clear n0_ n1_ n2_ hba;rw [← hbl]
     clear hx0 hx1 cl1 cl2 p306 q306 q307;obtain ⟨s2, hs2⟩ : ∃ s2 : ByteArray, s2 = ⟨(Lib.itoa t0).toArray⟩ := ⟨_, rfl⟩
     obtain ⟨s3, hs3⟩ : ∃ s3 : ByteArray, s3 = ⟨(Lib.itoa wt).toArray⟩ := ⟨_, rfl⟩
     have y2 : s2.size = (Lib.itoa t0).length := by rw [hs2]; simp [ByteArray.size]
     have y3 : s3.size = (Lib.itoa wt).length := by rw [hs3]; simp [ByteArray.size]
     have HN := Aside0.mk (show (bc ++ (([32] ++ Lib.itoa t0) ++ [47] ++ Lib.itoa wt)) ++ (graphtext_Format.row (row.drop (i + 1)) ++ ([10] ++ graphtext_Format.text (l0_0.drop (v + 1)) (l0_1.drop (v + 1)))) = graphtext_Format.text l0_0 l0_1 from (by rw [← H]; simp only [List.append_assoc]))
     have HL := Aside0.mk (show bc.length + (1 + s2.size + 1 + s3.size) ≤ 1000000 from (by have := HTL.out; rw [← HN.out] at this; simp only [List.length_append, List.length_singleton] at this; omega))
     clear H y2 y3;have y4 : (9223372036854775807 < 1 + s2.size) = False := eq_false (by have := HL.out; omega)
     have y5 : (9223372036854775807 < 1 + s2.size + 1) = False := eq_false (by have := HL.out; omega)
     have y6 : (9223372036854775807 < 1 + s2.size + 1 + s3.size) = False := eq_false (by have := HL.out; omega)
     have Y7 := Aside0.mk (show ((((⟨#[32]⟩ : ByteArray) ++ s2) ++ (⟨#[47]⟩ : ByteArray)) ++ s3).size = 1 + s2.size + 1 + s3.size from (by simp only [ByteArray.size_append]; rfl))
     have Y8 := Aside0.mk (show Lib.strCells ((((⟨#[32]⟩ : ByteArray) ++ s2) ++ (⟨#[47]⟩ : ByteArray)) ++ s3) = Lib.byteCells (([32] ++ Lib.itoa t0) ++ [47] ++ Lib.itoa wt) from (by rw [hs2, hs3, show (⟨#[32]⟩ : ByteArray) = ⟨[32].toArray⟩ from rfl, show (⟨#[47]⟩ : ByteArray) = ⟨[47].toArray⟩ from rfl, graphtext_Format.app, graphtext_Format.app, graphtext_Format.app]; rfl))
     have HS2 := Aside0.mk hs2
     have HS3 := Aside0.mk hs3
     clear hs2 hs3;refine start_ (n := 10) (S := fun w' => w'.heap[bl]? = some (.cells #[.int .i64 t0, .int .i64 wt] 41 (0, 0))) (ds := []) #[B0,B0,B0,B0,B0,B0,B0,B0,B0,B0] (by kernel_rfl) rfl rfl BL.out (fun hHeld => ?_); refine with_tabW graphtext_Format.tab11 graphtext_Format.bits11 (fun HT_ HW_ => ?_)
     generalize (wr.alloc (Obj.cells #[Value.int IntKind.i64 t0, Value.int IntKind.i64 wt] 41)).drew = w11 at BK HB IB BL hHeld ⊢
     clear hbl;refine pure_ (i := 0) (N := some 34) (v := ?_) (a' := ?_) #[B1,B0,B0,B0,B0,B0,B0,B0,B0,B0] rfl rfl (any_of HT_.out (by kernel_rfl)) (fun _ _ _ h => h) (Or.inl ⟨by rfl, ?_⟩) ?_ ?_
     rotate_left
     ·intro w';go_simp;with_reducible rfl
     rotate_left
     ·simp only [Act.put, List.setIfInBounds_toArray, List.set_cons_zero, List.set_cons_succ, i64_w, i32_w];rfl
     refine pure_ (i := 5) (N := some 39) (v := ?_) (a' := ?_) #[B1,B0,B0,B0,B0,B1,B0,B0,B0,B0] rfl rfl (any_of HT_.out (by kernel_rfl)) (fun _ _ _ h => h) (Or.inl ⟨by rfl, ?_⟩) ?_ ?_
     rotate_left
     ·intro w';go_simp;with_reducible rfl
     rotate_left
     ·simp only [Act.put, List.setIfInBounds_toArray, List.set_cons_zero, List.set_cons_succ, i64_w, i32_w];rfl
     refine take_ (i := 1) (N := some 35) (v := ?_) (a' := ?_) #[B1,B1,B0,B0,B0,B1,B0,B0,B0,B0] rfl rfl (take_ofW HT_.out HW_.out (by kernel_rfl)) (fun _ _ _ h => h) (Or.inl ⟨by rfl, ?_⟩) BL.out ?_ ?_
     rotate_left
     ·rintro w' s0
      have s1 := (blk_cell s0 0).trans rfl
      go_simp;with_reducible rfl
     rotate_left
     ·simp only [Act.put, List.setIfInBounds_toArray, List.set_cons_zero, List.set_cons_succ, i64_w, i32_w];rfl
     refine take_ (i := 6) (N := some 40) (v := ?_) (a' := ?_) #[B1,B1,B0,B0,B0,B1,B1,B0,B0,B0] rfl rfl (take_ofW HT_.out HW_.out (by kernel_rfl)) (fun _ _ _ h => h) (Or.inl ⟨by rfl, ?_⟩) BL.out ?_ ?_
     rotate_left
     ·rintro w' s0
      have s1 := (blk_cell s0 1).trans rfl
      go_simp;with_reducible rfl
     rotate_left
     ·simp only [Act.put, List.setIfInBounds_toArray, List.set_cons_zero, List.set_cons_succ, i64_w, i32_w];rfl
     refine one_ (i := 2) (N := some 36) #[B1,B1,B1,B0,B0,B1,B1,B0,B0,B0] rfl rfl (one_of HT_.out (by kernel_rfl)) (by decide) (fun K hK => ?_)
     refine goes_ Tryd.func30 (by kernel_rfl) rfl #[.int .i64 t0] (by rfl) rfl rfl (by (try simp only [List.map_toArray, List.map_cons, List.map_nil]); first | done | rfl) ?_
     refine (graphtext_Format.itoa t0 WL.out.1 _ (HSH.out.below HB.out)).mono ?_
     rintro e w12 ⟨rfl, hb⟩
     refine ⟨_, rfl, ?_⟩
     have hb2 := hb
     have n0_ := Aside0.mk ((hb.block gb (blk_lt BK.out)).trans BK.out)
     have n1_ := Aside0.mk (below_step HB.out hb)
     have n2_ := Aside0.mk (Bd.below IB.out hb)
     have n3_ := Aside0.mk ((hb.block bl (blk_lt BL.out)).trans BL.out)
     clear BK HB IB BL;have BK := n0_
     have HB := n1_
     have IB := n2_
     have BL := n3_
     clear n0_ n1_ n2_ n3_ hb hb2;rw [← HS2.out]
     refine hK.out _ _ BL.out (fun _ => ?_)
     clear hK K;refine norm_ (a' := ?_) ?_ ?_
     rotate_left
     ·show Act.put _ (some 36) _ = _
      simp only [Act.put, List.setIfInBounds_toArray, List.set_cons_zero, List.set_cons_succ, i64_w, i32_w];rfl
     refine pure_ (i := 3) (N := some 37) (v := ?_) (a' := ?_) #[B1,B1,B1,B1,B0,B1,B1,B0,B0,B0] rfl rfl (any_of HT_.out (by kernel_rfl)) (fun _ _ _ h => h) (Or.inl ⟨by rfl, ?_⟩) ?_ ?_
     rotate_left
     ·intro w';go_simp;with_reducible rfl
     rotate_left
     ·simp only [Act.put, List.setIfInBounds_toArray, List.set_cons_zero, List.set_cons_succ, i64_w, i32_w];rfl
     refine pure_ (i := 4) (N := some 38) (v := ?_) (a' := ?_) #[B1,B1,B1,B1,B1,B1,B1,B0,B0,B0] rfl rfl (any_of HT_.out (by kernel_rfl)) (fun _ _ _ h => h) (Or.inl ⟨by rfl, ?_⟩) ?_ ?_
     rotate_left
     ·intro w';go_simp;with_reducible rfl
     rotate_left
     ·simp only [Act.put, List.setIfInBounds_toArray, List.set_cons_zero, List.set_cons_succ, i64_w, i32_w];rfl
     refine one_ (i := 7) (N := some 41) #[B1,B1,B1,B1,B1,B1,B1,B1,B0,B0] rfl rfl (one_of HT_.out (by kernel_rfl)) (by decide) (fun K hK => ?_)
     refine goes_ Tryd.func30 (by kernel_rfl) rfl #[.int .i64 wt] (by rfl) rfl rfl (by (try simp only [List.map_toArray, List.map_cons, List.map_nil]); first | done | rfl) ?_
     refine (graphtext_Format.itoa wt WL.out.2 _ (HSH.out.below HB.out)).mono ?_
     rintro e w13 ⟨rfl, hb⟩
     refine ⟨_, rfl, ?_⟩
     have hb2 := hb
     have n0_ := Aside0.mk ((hb.block gb (blk_lt BK.out)).trans BK.out)
     have n1_ := Aside0.mk (below_step HB.out hb)
     have n2_ := Aside0.mk (Bd.below IB.out hb)
     have n3_ := Aside0.mk ((hb.block bl (blk_lt BL.out)).trans BL.out)
     clear BK HB IB BL;have BK := n0_
     have HB := n1_
     have IB := n2_
     have BL := n3_
     clear n0_ n1_ n2_ n3_ hb hb2;rw [← HS3.out]
     refine hK.out _ _ BL.out (fun _ => ?_)
     clear hK K;refine norm_ (a' := ?_) ?_ ?_
     rotate_left
     ·show Act.put _ (some 41) _ = _
      simp only [Act.put, List.setIfInBounds_toArray, List.set_cons_zero, List.set_cons_succ, i64_w, i32_w];rfl
     refine pure_ (i := 8) (N := some 42) (v := ?_) (a' := ?_) #[B1,B1,B1,B1,B1,B1,B1,B1,B1,B0] rfl rfl (any_of HT_.out (by kernel_rfl)) (fun _ _ _ h => h) (Or.inl ⟨by rfl, ?_⟩) ?_ ?_
     rotate_left
     ·intro w';go_simp;with_reducible rfl
     rotate_left
     ·simp only [Act.put, List.setIfInBounds_toArray, List.set_cons_zero, List.set_cons_succ, i64_w, i32_w];rfl
     refine one_ (i := 9) (N := some 43) #[B1,B1,B1,B1,B1,B1,B1,B1,B1,B1] rfl rfl (one_of HT_.out (by kernel_rfl)) (by decide) (fun K hK => ?_)
     refine goes_ Tryd.func29 (by kernel_rfl) rfl #[.pointer (some ⟨bd, 0, none⟩), .string (((⟨#[32]⟩ ++ s2) ++ ⟨#[47]⟩) ++ s3)] (by rfl) rfl rfl (by (try simp only [List.map_toArray, List.map_cons, List.map_nil]); first | done | rfl) ?_
     refine (Bd.writeString bd bd _ _ _ IB.out (by rw [Y7.out, Lib.byteCells_length]; have := HL.out; omega) (Nat.le_of_lt (Bd.ltB IB.out))).mono ?_
     rintro e w14 ⟨rfl, hib, hb, hk⟩
     refine ⟨_, rfl, ?_⟩
     rw [Y8.out, ← Lib.byteCells_append] at hib
     have n0_ := Aside0.mk ((hb.block gb GL.out).trans BK.out)
     have n1_ := Aside0.mk ((HB.out.trans (hb.mono GB.out) : Below w.heap.size w w14))
     have n3_ := Aside0.mk (hk bl _ BL.out (by have := GBL.out; simp; omega) (fun c fz h => by cases h))
     clear BK HB BL IB;have BK := n0_
     have HB := n1_
     have BL := n3_
     have IB := Aside0.mk hib
     clear n0_ n1_ n3_ hib hb hk;refine hK.out _ _ BL.out (fun _ => ?_)
     clear hK K;refine norm_ (a' := ?_) ?_ ?_
     rotate_left
     ·show Act.put _ (some 43) _ = _
      simp only [Act.put, List.setIfInBounds_toArray, List.set_cons_zero, List.set_cons_succ, i64_w, i32_w];rfl
     refine done_ (done_of HT_.out (by kernel_rfl)) ?_
     clear y4 y5 y6;go_wp2
     go_roundg k2
     case measure => omega
     case rel => exact ⟨i + 1, _, congrArg (Value.int .i64) (by have := HLT2.out; have := RL.out.1; unfold wrap64; omega : wrap64 ((i : Int) + 1) = ((i + 1 : Nat) : Int)), ⟨by have := HI.out; omega⟩, HN, BK, IB, HB⟩
end Go.Proofs.YtinfejpkjddbiaaDoor.P
