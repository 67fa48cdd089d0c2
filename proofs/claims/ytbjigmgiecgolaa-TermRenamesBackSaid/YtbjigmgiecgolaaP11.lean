-- made by a program of mine (wip/tools/pp.py over the kit's print)
import Derived.Test.YtbjigmgiecgolaaP0
import Derived.Test.YtbjigmgiecgolaaP4
import Derived.Test.YtbjigmgiecgolaaP8
namespace Go.Proofs.Ytbjigmgiecgolaa.P
open Go.RowKit Go.Proofs.YtbjigmgiecgolaaW.PrintWords Go.Proofs.YtbjigmgiecgolaaW.PrintLast Go.Proofs.YtbjigmgiecgolaaW.PrintMore
attribute [local go_sem] max2_int min2_int max_two min_two max_three min_three max_four min_four   -- for this text's walks alone
set_option linter.unusedVariables false
set_option linter.unusedSimpArgs false

/-! ### term_Rename: function 26 -/
mutual
def term_Rename.l0 : Nat → List (S31) → List Int → Int → Option ((List (S31)) × Int)
  | 0, _, _, _ => none
  | k + 1, x0, x1, x6 => if x6 < (x1.length : Int) then (if 0 ≤ x6 then (if (rd x1 x6) < 0 then (some (([] : List (S31)), 2)) else (if (rd x1 x6) ≥ 6 then (some (([] : List (S31)), 2)) else (term_Rename.l0 k x0 x1 (wrap64 (x6 + 1))))) else (none)) else (if 0 < x0.length then (if x0.length < 1000000 then (term_Rename.l1 k x1 (x0.length : Int) x0 0) else (none)) else (none))
def term_Rename.l1 : Nat → List Int → Int → List (S31) → Int → Option ((List (S31)) × Int)
  | 0, _, _, _, _ => none
  | k + 1, x1, n, x7, x8 => if x8 < n then (if 0 ≤ x8 then (if ((rd_T31 x7 x8).f0) = 5 then (if 0 ≤ ((rd_T31 x7 x8).f1) then (if ((rd_T31 x7 x8).f1) < (x1.length : Int) then (term_Rename.l1 k x1 n (x7.set (x8 : Int).toNat (⟨(rd_T31 x7 x8).f0, rd x1 ((rd_T31 x7 x8).f1)⟩ : S31)) (wrap64 (x8 + 1))) else (none)) else (none)) else (if ((rd_T31 x7 x8).f0) = 12 then (if 0 ≤ ((rd_T31 x7 x8).f1) then (if ((rd_T31 x7 x8).f1) < (x1.length : Int) then (term_Rename.l1 k x1 n (x7.set (x8 : Int).toNat (⟨(rd_T31 x7 x8).f0, rd x1 ((rd_T31 x7 x8).f1)⟩ : S31)) (wrap64 (x8 + 1))) else (none)) else (none)) else (term_Rename.l1 k x1 n x7 (wrap64 (x8 + 1))))) else (none)) else (some (x7, 0))
end
def term_Rename.f (k : Nat) (l0 : List (S31)) (l1 : List Int) : Option ((List (S31)) × Int) := (term_Valid.f k l0 (l1.length : Int)).bind fun t304 => (if t304 = true then (term_Rename.l0 k l0 l1 0) else (some (([] : List (S31)), 7)))
theorem term_Rename.mono_l : ∀ k, (∀ y0 y1 y2, LeO (term_Rename.l0 k y0 y1 y2) (term_Rename.l0 (k + 1) y0 y1 y2)) ∧ (∀ y0 y1 y2 y3, LeO (term_Rename.l1 k y0 y1 y2 y3) (term_Rename.l1 (k + 1) y0 y1 y2 y3))
  | 0 => ⟨fun _ _ _ r h => by simp [term_Rename.l0] at h, fun _ _ _ _ r h => by simp [term_Rename.l1] at h⟩
  | k + 1 => by
    obtain ⟨ih0, ih1⟩ := term_Rename.mono_l k
    refine ⟨?_, ?_⟩
    · intro y0 y1 y2
      unfold term_Rename.l0
      repeat' first
      | (with_reducible exact ih0 _ _ _)
      | (with_reducible exact ih1 _ _ _ _)
      | (with_reducible exact LeO.refl _)
      | (with_reducible refine LeO.ite ?_ ?_)
    · intro y0 y1 y2 y3
      unfold term_Rename.l1
      repeat' first
      | (with_reducible exact ih1 _ _ _ _)
      | (with_reducible exact LeO.refl _)
      | (with_reducible refine LeO.ite ?_ ?_)
theorem term_Rename.mono : ∀ a0 a1 k, LeO (term_Rename.f k a0 a1) (term_Rename.f (k + 1) a0 a1) := by
  intro a0 a1 k
  obtain ⟨ih0, ih1⟩ := term_Rename.mono_l k
  unfold term_Rename.f
  repeat' first
      | (with_reducible exact ih0 _ _ _)
      | (with_reducible exact term_Valid.mono _ _ _)
      | (with_reducible exact LeO.refl _)
      | (with_reducible refine LeO.ite ?_ ?_)
      | (with_reducible refine LeO.bind ?_ (fun _ => ?_))
theorem term_Rename.copy_all {P : Program} {ops : Array Oper} {rest : List Oper} {o : Oper} {a : Act} {Q : Exit → Act → World → Prop} {α : Type} (d : Kd α) {w0 W : World} (base : Nat) (hgd : o.guard = none) (s x : Operand) (t e : TypeId)
    (ho : o.op = .call { callee := .builtin .copy, args := #[s, x], argTypes := #[t, t] })
    (ht : P.underlying t = some (.slice e)) (hinfo : (P.info? e).map (·.size) = some d.sz) (hs0 : 0 < d.sz)
    {g n cap c : Nat} (xs ys : List α) (A : Option Addr) (ok okp : Nat → Prop) (hs : a.eval s = .slice (some ⟨g, 0, none⟩) n cap) (hx : a.eval x = .slice A n c) (hn : 0 < n)
    (HO : d.R e W base ok (.slice (some ⟨g, 0, none⟩) n cap) xs) (HR : d.C W A n ys) (hKM : ∀ w0 w1 x cs, d.K w0 x cs → d.M w1 base okp x cs) (hokp : ∀ k, okp k → ok k ∧ k ≠ g) (HB : Below base w0 W)
    (h : ∀ w1, d.R e w1 base ok (.slice (some ⟨g, 0, none⟩) n cap) ys → Below base w0 w1 → W.grownBy w1 (some g) → wpList P ops Q rest (a.put o.dst (goInt n)) w1) : wpList P ops Q (o :: rest) a W := by
  obtain ⟨hok, inner, hown, hr⟩ := HO
  obtain ⟨hl, hn1, had⟩ := HR
  obtain ⟨ad, rfl, _⟩ := had hn
  obtain ⟨news, hnr, hnc⟩ := ReadsRow.inner_ (⟨hl, hn1, had⟩ : ReadsRow (d.K W) d.sz W (some ad) n ys)
  have hnl : news.length = n * d.sz := by rw [hnr.1, hl]
  have hone : ∀ u ∈ news, u.oneCell' = true := by
    intro u hu
    obtain ⟨q, hq, rfl⟩ := List.mem_iff_getElem.1 hu
    have hql : q / d.sz < ys.length := by
      rw [Nat.div_lt_iff_lt_mul hs0, ← hnr.1]
      exact hq
    have hc := hnr.2 (q / d.sz) _ (List.getElem?_eq_getElem hql)
    refine d.K_one (d.K_of_M (hKM W W _ _ hc)) _ ?_
    rw [List.mem_iff_getElem?]
    refine ⟨q % d.sz, ?_⟩
    rw [List.getElem?_take, if_pos (Nat.mod_lt _ hs0), List.getElem?_drop, Nat.mul_comm, Nat.div_add_mod, List.getElem?_eq_getElem hq]
  obtain ⟨hxl, hv⟩ := hown
  rcases hv with ⟨hv, _⟩ | ⟨g', cap', cur, hv, hbg, hg, hnc', hcm, hsz, htk⟩
  · cases hv
  injection hv with e1 e2 e3
  injection e1 with e1
  injection e1 with e1 _ _
  subst e1 e2 e3
  have hlc := run_loadCells_list (P := P) W ad news hnc
  have hfit : xs.length * d.sz ≤ cur.size := by rw [hsz]; exact Nat.mul_le_mul_right _ hnc'
  have hst := run_storeCells_at P g 0 e news 0 cur W hg (by omega) hone
  simp only [Nat.add_zero, Nat.zero_add, List.take_zero, List.nil_append] at hst
  have hrun : (Builtin.copy_ #[t, t] o.type #[.slice (some ⟨g, 0, none⟩) xs.length cap, .slice (some ad) xs.length c]).run P W = .ok (goInt xs.length) (W.setRow g (news ++ cur.toList.drop news.length).toArray) := by
    cases hq : P.info? e with
    | none => simp [hq] at hinfo
    | some i =>
      have hi : i.size = d.sz := by simpa [hq] using hinfo
      simp [Builtin.copy_, run_underlying ht, Builtin.lenOf, Builtin.firstCells, sizeOf, typeInfo, hq, hi, ← hnl, hlc, hst]
  refine wpList_plain hgd fun K hK => ?_
  unfold Oper.wp
  simp [execOp, ho, resolve, invoke, builtin, hs, hx, hrun, Result.andThen]
  have hlt : g < W.heap.size := (Array.getElem?_eq_some_iff.1 hg).1
  have hnew := setRow_heap W g cur (news ++ cur.toList.drop news.length).toArray e (0, 0) hg
  have hgrown : W.grownBy (W.setRow g (news ++ cur.toList.drop news.length).toArray) (some g) := ⟨rfl, rfl, rfl, by simp [World.setRow], fun k _ hk => setRow_other W g k _ (fun e => hk (by rw [e]))⟩
  refine hK _ _ (h _ ⟨hok, news, ⟨by rw [hnl, hl], .inr ⟨g, cap, _, by rw [hl], hbg, hnew, by rw [hl]; exact hnc', hcm, ?_, ?_⟩⟩, ?_⟩ ?_ hgrown)
  · simp
    rw [hnl]; omega
  · rw [List.take_append_of_le_length (by rw [hnl, hl]; exact Nat.le_refl _), List.take_of_length_le (by rw [hnl, hl]; exact Nat.le_refl _)]
  · exact hnr.imp_ (fun p c hp => d.M_mono (fun k hk => ⟨(hokp k hk).1, fun e => (hokp k hk).2 (by injection e)⟩) (hKM _ _ _ _ hp))
  · exact HB.trans ⟨rfl, rfl, rfl, by simp [World.setRow], fun k hk => setRow_other W g k _ (by omega)⟩
set_option maxHeartbeats 6000000 in
set_option maxRecDepth 100000 in
theorem term_Rename.calls (k : Nat) (A0 : Option Addr) (c0 : Nat) (l0 : List (S31)) (A1 : Option Addr) (c1 : Nat) (l1 : List Int) (r1 : List (S31)) (r2 : Int) (w : World) (hr0 : Kd.C k31 w A0 l0.length l0) (hc0 : l0.length ≤ c0) (hr1 : Kd.C (Kd.int .i64) w A1 l1.length l1) (hc1 : l1.length ≤ c1) (h : term_Rename.f k l0 l1 = some (r1, r2)) :
    Calls Try.prog 26 #[.slice A0 l0.length c0, .slice A1 l1.length c1] w fun e w' => ∃ v0_ : Value, e = .returned (.tuple #[v0_, .int .i64 r2]) ∧ Kd.R k31 31 w' w.heap.size (fun _ => True) v0_ r1 ∧ Below w.heap.size w w' := by
  have HR0 := Aside0.mk hr0
  have HC0 := Aside0.mk hc0
  clear hr0 hc0
  have HR1 := Aside0.mk hr1
  have HC1 := Aside0.mk hc1
  clear hr1 hc1
  have HB := Aside0.mk (Below.refl w.heap.size w)
  have H : ((term_Valid.f k l0 (l1.length : Int)).bind fun t304 => (if t304 = true then (term_Rename.l0 k l0 l1 0) else (some (([] : List (S31)), 7)))) = some (r1, r2) := h
  clear h
  replace H := Option.bind_eq_some_iff.mp H
  obtain ⟨t304, A30, H⟩ := H
  replace H : (if t304 = true then (term_Rename.l0 k l0 l1 0) else (some (([] : List (S31)), 7))) = some (r1, r2) := H
  have A3 := Aside0.mk A30
  clear A30
  by_cases c4 : t304 = true
  case neg =>
    replace c4 := Bool.eq_false_iff.mpr c4
    subst c4
    have H1 : (some (([] : List (S31)), (7 : Int))) = some (r1, r2) := by rw [if_neg (show ¬ (false = true) by decide)] at H; exact H
    simp only [Option.some.injEq, Prod.mk.injEq] at H1
    obtain ⟨rfl, rfl⟩ := H1
    clear H
    go_enter Try.func26, Try.ntmps26
    go_wp2_with (first | ((with_reducible refine gate_callee (f := 24) rfl ?_); refine goesL_ (some 14) rfl rfl Try.func24 (by kernel_rfl) rfl #[.slice A0 l0.length c0, .int .i64 (l1.length : Int)] rfl (by (try simp only [List.map_toArray, List.map_cons, List.map_nil]); first | done | rfl | (simp only [List.length_drop, List.length_take]; rfl)) ?_; (with_reducible refine (term_Valid.calls k _ _ l0 (l1.length : Int) false _ ?side1 ?side2 A3.out).mono ?_); (case side1 => repeat (first | exact HR0.out | (with_reducible refine Kd.C_alloc ?_ _) | (with_reducible refine Kd.C_drewN ?_ _) | (with_reducible refine Kd.C_drew ?_))); (case side2 => exact HC0.out); rintro e w5 ⟨rfl, hb⟩; refine ⟨_, rfl, ?_⟩; have n0_ := Aside0.mk (below_step (by repeat (first | (with_reducible first | exact HB.out | apply below_alloc | apply pw_below_drewN | apply below_drew1) | exact HB.out)) hb); clear HB; have HB := n0_; clear n0_; (try clear hb)))
    go_ret2
    exact ⟨_, rfl, Kd.R_nil _ _ _ _ _, by repeat (first | (with_reducible first | exact HB.out | apply below_alloc | apply pw_below_drewN | apply below_drew1) | exact HB.out)⟩
  subst c4
  have H1 : (term_Rename.l0 k l0 l1 0) = some (r1, r2) := by rw [if_pos rfl] at H; exact H
  clear H
  have H' := Aside0.mk H1
  clear H1
  go_enter Try.func26, Try.ntmps26
  go_wp2_with (first | ((with_reducible refine gate_callee (f := 24) rfl ?_); refine goesL_ (some 14) rfl rfl Try.func24 (by kernel_rfl) rfl #[.slice A0 l0.length c0, .int .i64 (l1.length : Int)] rfl (by (try simp only [List.map_toArray, List.map_cons, List.map_nil]); first | done | rfl | (simp only [List.length_drop, List.length_take]; rfl)) ?_; (with_reducible refine (term_Valid.calls k _ _ l0 (l1.length : Int) true _ ?side1 ?side2 A3.out).mono ?_); (case side1 => repeat (first | exact HR0.out | (with_reducible refine Kd.C_alloc ?_ _) | (with_reducible refine Kd.C_drewN ?_ _) | (with_reducible refine Kd.C_drew ?_))); (case side2 => exact HC0.out); rintro e w5 ⟨rfl, hb⟩; refine ⟨_, rfl, ?_⟩; have n0_ := Aside0.mk (below_step (by repeat (first | (with_reducible first | exact HB.out | apply below_alloc | apply pw_below_drewN | apply below_drew1) | exact HB.out)) hb); clear HB; have HB := n0_; clear n0_; (try clear hb)))
  go_loopg [18] k (fun kq v6 w' => ∃ (x6_1 : Int), v6 = .int .i64 x6_1 ∧ Aside0 (term_Rename.l0 kq l0 l1 x6_1 = some (r1, r2)) ∧ Aside0 (kq ≤ k) ∧ Aside0 (Below w.heap.size w w'))
  case atStart => exact ⟨(0), (by first | rfl | (simp; done) | (simp [*]; done)), H', ⟨Nat.le_refl _⟩, ⟨by repeat (first | (with_reducible first | exact HB.out | apply below_alloc | apply pw_below_drewN | apply below_drew1) | exact HB.out)⟩⟩
  case round =>
    clear H'
    obtain ⟨x6_1, rfl, HA, HK1, HB⟩ := hrel
    cases gk with
    | zero => exact absurd HA.out (by simp [term_Rename.l0])
    | succ k1 =>
      have H := HA.out
      clear HA
      simp only [term_Rename.l0] at H
      by_cases c6 : x6_1 < (l1.length : Int)
      · rw [if_pos c6] at H
        have c6b0 : decide (x6_1 < (l1.length : Int)) = true := decide_eq_true c6
        clear c6
        by_cases c7 : 0 ≤ x6_1
        case neg => rw [if_neg c7] at H; exact absurd H (by simp)
        rw [if_pos c7] at H
        have c7b0 : decide (0 ≤ x6_1) = true := decide_eq_true c7
        clear c7
        have p305 : 0 ≤ (x6_1 : Int) := of_decide_eq_true (by first | (with_reducible assumption) | assumption)
        have q305 : x6_1 < (l1.length : Int) := of_decide_eq_true (by first | (with_reducible assumption) | assumption)
        obtain ⟨ad305, e305, hx305_0⟩ := Kd.at_int HR1.out x6_1 p305 q305
        cases e305
        replace hx305_0 := (HB.out.cell (World.block_lt_of_cell? w _ hx305_0)).trans hx305_0
        replace p305 := eq_true p305
        replace q305 := eq_true q305
        by_cases c8 : (rd l1 x6_1) < 0
        · rw [if_pos c8] at H
          have c8b0 : decide ((rd l1 x6_1) < 0) = true := decide_eq_true c8
          clear c8
          simp only [Option.some.injEq, Prod.mk.injEq] at H
          obtain ⟨rfl, rfl⟩ := H
          go_wp2
          go_ret2
          exact ⟨_, rfl, Kd.R_nil _ _ _ _ _, by repeat (first | (with_reducible first | exact HB.out | apply below_alloc | apply pw_below_drewN | apply below_drew1) | exact HB.out)⟩
        · rw [if_neg c8] at H
          have c8b0 : decide ((rd l1 x6_1) < 0) = false := decide_eq_false c8
          clear c8
          by_cases c9 : (rd l1 x6_1) ≥ 6
          · rw [if_pos c9] at H
            have c9b0 : decide (6 ≤ (rd l1 x6_1)) = true := decide_eq_true c9
            clear c9
            simp only [Option.some.injEq, Prod.mk.injEq] at H
            obtain ⟨rfl, rfl⟩ := H
            go_wp2
            go_ret2
            exact ⟨_, rfl, Kd.R_nil _ _ _ _ _, by repeat (first | (with_reducible first | exact HB.out | apply below_alloc | apply pw_below_drewN | apply below_drew1) | exact HB.out)⟩
          · rw [if_neg c9] at H
            have c9b0 : decide (6 ≤ (rd l1 x6_1)) = false := decide_eq_false c9
            clear c9
            have H' := Aside0.mk H
            clear H
            go_wp2
            go_roundg k1
            case measure => have := HK1.out; omega
            case rel => exact ⟨(wrap64 (x6_1 + 1)), (by first | rfl | (simp; done) | (simp [*]; done)), H', ⟨by have := HK1.out; omega⟩, ⟨by repeat (first | (with_reducible first | exact HB.out | apply below_alloc | apply pw_below_drewN | apply below_drew1) | exact HB.out)⟩⟩
      · rw [if_neg c6] at H
        have c6b0 : decide (x6_1 < (l1.length : Int)) = false := decide_eq_false c6
        clear c6
        by_cases c10 : 0 < l0.length
        case neg => rw [if_neg c10] at H; exact absurd H (by simp)
        rw [if_pos c10] at H
        by_cases c11 : l0.length < 1000000
        case neg => rw [if_neg c11] at H; exact absurd H (by simp)
        rw [if_pos c11] at H
        have LMc10 := Aside0.mk c10
        have LMc11 := Aside0.mk c11
        clear c10 c11
        have H' := Aside0.mk H
        clear H
        go_wp2_with (first | (at_make; refine Kd.R_make k31 (w0 := w) w.heap.size 31 rfl (N := 31) rfl 22 (.tmp 30) (.tmp 30) rfl (l0.length : Int) rfl rfl Try.underlying22 (.agg #[(.int .i64 0), (.int .i64 0)]) 16 info31 rfl (by decide) (by decide) z31 (ok := fun _ => True) (okp := fun _ => False) ?mZ (fun _ h => h.elim) trivial (by omega) ?mL ?mB ?mS ?_; (case mZ => exact k31_mkM _ _ _ z31); (case mL => have := LMc11.out; omega); (case mB => exact (by repeat (first | (with_reducible first | exact HB.out | apply below_alloc | apply pw_below_drewN | apply below_drew1) | exact HB.out))); (case mS => exact (below_size (by repeat (first | (with_reducible first | exact HB.out | apply below_alloc | apply pw_below_drewN | apply below_drew1) | exact HB.out)))); intro v1 w11 hR hb hg hbk; obtain ⟨y1, hy1⟩ : ∃ y_, y_ = List.replicate (l0.length : Int).toNat z31 := ⟨_, rfl⟩; rw [← hy1] at hR; have Ny1 := Aside0.mk hy1; have HO_7 := Aside0.mk hR; clear HB; have HB := Aside0.mk hb; clear hy1 hR hb hg hbk; have hl7 : y1.length = l0.length := (by rw [Ny1.out]; simp); obtain ⟨go7, co7, eo7, gb7, gl7, cl7, HG7⟩ := Kd.R_form HO_7.out (by have := LMc10.out; omega); rw [hl7] at eo7; subst eo7; have GB7 := Aside0.mk gb7; have HL7 := Aside0.mk hl7; clear gb7 gl7 HG7 hl7) | ((with_reducible refine gate_builtin (b := .copy) (xs := #[.tmp 32, .tmp 33]) rfl ?_); refine term_Rename.copy_all k31 (w0 := w) w.heap.size rfl (.tmp 32) (.tmp 33) 22 31 rfl Try.underlying22 (by kernel_rfl) (by decide) y1 l0 A0 (fun _ => True) (fun _ => False) rfl rfl ?cN ?cO ?cR (fun _ w1 x cs h => by rw [k31_open h]; exact k31_mkM w1 _ _ x) (fun _ h => h.elim) ?cB ?_; (case cN => exact LMc10.out); (case cO => exact (by (with_reducible repeat (first | apply Kd.R_alloc | apply Kd.R_drewN | apply Kd.R_drew)); exact HO_7.out)); (case cR => repeat (first | exact (Kd.C_below HR0.out HB.out) | (with_reducible refine Kd.C_alloc ?_ _) | (with_reducible refine Kd.C_drewN ?_ _) | (with_reducible refine Kd.C_drew ?_))); (case cB => exact (by repeat (first | (with_reducible first | exact HB.out | apply below_alloc | apply pw_below_drewN | apply below_drew1) | exact HB.out))); intro w12 hR hb hg; clear HO_7 HB; have HO_7 := Aside0.mk hR; have HB := Aside0.mk hb; clear hR hb hg))
        clear Ny1 HL7
        go_loopg [37] k1 (fun kq v37 w' => ∃ (x7_2 : List (S31)) (x8_2 : Int), v37 = .int .i64 x8_2 ∧ Aside0 (term_Rename.l1 kq l1 (l0.length : Int) x7_2 x8_2 = some (r1, r2)) ∧ Aside0 (kq ≤ k1) ∧ Aside0 (Kd.R k31 31 w' w.heap.size (fun _ => True) (.slice (some ⟨go7, 0, none⟩) l0.length co7) x7_2) ∧ Aside0 (Below w.heap.size w w'))
        case atStart => exact ⟨l0, (0), (by first | rfl | (simp; done) | (simp [*]; done)), H', ⟨Nat.le_refl _⟩, ⟨by (with_reducible repeat (first | apply Kd.R_alloc | apply Kd.R_drewN | apply Kd.R_drew)); exact HO_7.out⟩, ⟨by repeat (first | (with_reducible first | exact HB.out | apply below_alloc | apply pw_below_drewN | apply below_drew1) | exact HB.out)⟩⟩
        case round =>
          clear H' c6b0
          obtain ⟨x7_2, x8_2, rfl, HA, HK2, HO_7, HB⟩ := hrel
          cases gk with
          | zero => exact absurd HA.out (by simp [term_Rename.l1])
          | succ k2 =>
            have H := HA.out
            clear HA
            simp only [term_Rename.l1] at H
            by_cases c12 : x8_2 < (l0.length : Int)
            · rw [if_pos c12] at H
              have c12b0 : decide (x8_2 < (l0.length : Int)) = true := decide_eq_true c12
              by_cases c13 : 0 ≤ x8_2
              case neg => rw [if_neg c13] at H; exact absurd H (by simp)
              rw [if_pos c13] at H
              have c13b0 : decide (0 ≤ x8_2) = true := decide_eq_true c13
              have NL := Aside0.mk (Kd.R_reads' HO_7.out).1
              obtain ⟨ce17, hcl17, hM17, hcc17, hfr17⟩ := Kd.R_elem HO_7.out z31 (x8_2 : Int) c13 c12
              obtain rfl := k31_openM hM17
              have hx17_0 : wr.cell? ⟨go7, (x8_2 : Int).toNat * 2, none⟩ = some (.int .i64 ((rd_T31 x7_2 x8_2).f0)) := hcc17 0 _ rfl
              have hx17_1 : wr.cell? ⟨go7, (x8_2 : Int).toNat * 2 + 1, none⟩ = some (.int .i64 ((rd_T31 x7_2 x8_2).f1)) := hcc17 1 _ rfl
              have hf17_0 : wr.frozen? ⟨go7, (x8_2 : Int).toNat * 2, none⟩ = false := hfr17 0
              have hf17_1 : wr.frozen? ⟨go7, (x8_2 : Int).toNat * 2 + 1, none⟩ = false := hfr17 1
              clear hfr17 hM17
              have C17 := Aside0.mk (And.intro hcl17 hcc17)
              clear hcl17 hcc17
              have q17 := eq_true c12
              have p17 := eq_true c13
              have CC12 := Aside0.mk c12
              have CC13 := Aside0.mk c13
              clear c12 c13
              have step : ∀ (H : (if 0 ≤ ((rd_T31 x7_2 x8_2).f1) then (if ((rd_T31 x7_2 x8_2).f1) < (l1.length : Int) then (term_Rename.l1 k2 l1 (l0.length : Int) (x7_2.set (x8_2 : Int).toNat (⟨(rd_T31 x7_2 x8_2).f0, rd l1 ((rd_T31 x7_2 x8_2).f1)⟩ : S31)) (wrap64 (x8_2 + 1))) else (none)) else (none)) = some (r1, r2)), ∃ y1 : List S31, Aside0 (y1 = x7_2.set (x8_2 : Int).toNat (⟨(rd_T31 x7_2 x8_2).f0, rd l1 ((rd_T31 x7_2 x8_2).f1)⟩ : S31)) ∧ Aside0 (term_Rename.l1 k2 l1 (l0.length : Int) y1 (wrap64 (x8_2 + 1)) = some (r1, r2)) ∧ Aside0 (0 ≤ ((rd_T31 x7_2 x8_2).f1)) ∧ Aside0 (((rd_T31 x7_2 x8_2).f1) < (l1.length : Int)) := by
                intro H
                by_cases c15 : 0 ≤ ((rd_T31 x7_2 x8_2).f1)
                · rw [if_pos c15] at H
                  by_cases c16 : ((rd_T31 x7_2 x8_2).f1) < (l1.length : Int)
                  · rw [if_pos c16] at H
                    exact ⟨_, ⟨rfl⟩, ⟨H⟩, ⟨c15⟩, ⟨c16⟩⟩
                  · rw [if_neg c16] at H; exact absurd H (by simp)
                · rw [if_neg c15] at H; exact absurd H (by simp)
              have STEP := Aside0.mk step
              clear step
              by_cases c14 : ((rd_T31 x7_2 x8_2).f0) = 5
              · rw [if_pos c14] at H
                have c14b0 : (((rd_T31 x7_2 x8_2).f0) == 5) = true := beq_iff_eq.mpr c14
                clear c14
                obtain ⟨y2, NY2, H', c15, c16⟩ := STEP.out H
                clear H STEP
                obtain ⟨ad312, e312, hx312_0⟩ := Kd.at_int HR1.out ((rd_T31 x7_2 x8_2).f1) c15.out c16.out
                cases e312
                replace hx312_0 := (HB.out.cell (World.block_lt_of_cell? w _ hx312_0)).trans hx312_0
                have p312 := eq_true c15.out
                have q312 := eq_true c16.out
                clear c15 c16
                have HP19 := Kd.R_seg HO_7.out (x8_2 : Int) CC13.out CC12.out (seg := [.int .i64 (rd l1 ((rd_T31 x7_2 x8_2).f1))]) (j := 1) C17.out.1 C17.out.2 (show 2 ≤ 2 from by decide) (x' := (⟨(rd_T31 x7_2 x8_2).f0, rd l1 ((rd_T31 x7_2 x8_2).f1)⟩ : S31)) (k31_mkM _ _ _ (⟨(rd_T31 x7_2 x8_2).f0, rd l1 ((rd_T31 x7_2 x8_2).f1)⟩ : S31) ) (okp := fun _ => False) (fun _ hk => hk.elim)
                go_wp2_with (first | ((with_reducible refine gate_store (t := 3) (p := 64) rfl ?_); refine store_event (t := 3) (p := 64) (v := ?vo_w20) (w1 := (wr.setCell ⟨go7, (x8_2 : Int).toNat * 2 + 1, none⟩ (.int .i64 (rd l1 ((rd_T31 x7_2 x8_2).f1))))) ?hg ?ho ?hn ?hr ?_; (case ho => rfl); (case hg => rfl); (case hn => rfl); (case hr => first | (go_simp; done) | (go_simp; rfl)); intro w20 hw; have hg : wr.grownBy w20 (some go7) := (by rw [hw]; exact HP19.2); have hp_ : Kd.R k31 31 w20 w.heap.size (fun _ => True) (.slice (some ⟨go7, 0, none⟩) l0.length co7) y2 := (by rw [hw, NY2.out]; exact HP19.1); clear HP19; have n0_ := Aside0.mk (hp_); have n1_ := Aside0.mk ((by rw [hw]; exact below_set (HB.out) GB7.out : Below w.heap.size w w20)); clear HO_7; clear HB; have HO_7 := n0_; have HB := n1_; clear n0_ n1_; clear hg hw hp_))
                go_roundg k2
                case measure => have := HK1.out; have := HK2.out; omega
                case rel => exact ⟨(y2), (wrap64 (x8_2 + 1)), (by first | rfl | (simp; done) | (simp [*]; done)), H', ⟨by have := HK1.out; have := HK2.out; omega⟩, ⟨by (with_reducible repeat (first | apply Kd.R_alloc | apply Kd.R_drewN | apply Kd.R_drew)); exact HO_7.out⟩, ⟨by repeat (first | (with_reducible first | exact HB.out | apply below_alloc | apply pw_below_drewN | apply below_drew1) | exact HB.out)⟩⟩
              · rw [if_neg c14] at H
                have c14b0 : (((rd_T31 x7_2 x8_2).f0) == 5) = false := beq_eq_false_iff_ne.mpr c14
                clear c14
                by_cases c21 : ((rd_T31 x7_2 x8_2).f0) = 12
                · rw [if_pos c21] at H
                  have c21b0 : (((rd_T31 x7_2 x8_2).f0) == 12) = true := beq_iff_eq.mpr c21
                  clear c21
                  obtain ⟨y2, NY2, H', c15, c16⟩ := STEP.out H
                  clear H STEP
                  obtain ⟨ad312, e312, hx312_0⟩ := Kd.at_int HR1.out ((rd_T31 x7_2 x8_2).f1) c15.out c16.out
                  cases e312
                  replace hx312_0 := (HB.out.cell (World.block_lt_of_cell? w _ hx312_0)).trans hx312_0
                  have p312 := eq_true c15.out
                  have q312 := eq_true c16.out
                  clear c15 c16
                  have HP19 := Kd.R_seg HO_7.out (x8_2 : Int) CC13.out CC12.out (seg := [.int .i64 (rd l1 ((rd_T31 x7_2 x8_2).f1))]) (j := 1) C17.out.1 C17.out.2 (show 2 ≤ 2 from by decide) (x' := (⟨(rd_T31 x7_2 x8_2).f0, rd l1 ((rd_T31 x7_2 x8_2).f1)⟩ : S31)) (k31_mkM _ _ _ (⟨(rd_T31 x7_2 x8_2).f0, rd l1 ((rd_T31 x7_2 x8_2).f1)⟩ : S31) ) (okp := fun _ => False) (fun _ hk => hk.elim)
                  go_wp2_with (first | ((with_reducible refine gate_store (t := 3) (p := 64) rfl ?_); refine store_event (t := 3) (p := 64) (v := ?vo_w20) (w1 := (wr.setCell ⟨go7, (x8_2 : Int).toNat * 2 + 1, none⟩ (.int .i64 (rd l1 ((rd_T31 x7_2 x8_2).f1))))) ?hg ?ho ?hn ?hr ?_; (case ho => rfl); (case hg => rfl); (case hn => rfl); (case hr => first | (go_simp; done) | (go_simp; rfl)); intro w20 hw; have hg : wr.grownBy w20 (some go7) := (by rw [hw]; exact HP19.2); have hp_ : Kd.R k31 31 w20 w.heap.size (fun _ => True) (.slice (some ⟨go7, 0, none⟩) l0.length co7) y2 := (by rw [hw, NY2.out]; exact HP19.1); clear HP19; have n0_ := Aside0.mk (hp_); have n1_ := Aside0.mk ((by rw [hw]; exact below_set (HB.out) GB7.out : Below w.heap.size w w20)); clear HO_7; clear HB; have HO_7 := n0_; have HB := n1_; clear n0_ n1_; clear hg hw hp_))
                  go_roundg k2
                  case measure => have := HK1.out; have := HK2.out; omega
                  case rel => exact ⟨(y2), (wrap64 (x8_2 + 1)), (by first | rfl | (simp; done) | (simp [*]; done)), H', ⟨by have := HK1.out; have := HK2.out; omega⟩, ⟨by (with_reducible repeat (first | apply Kd.R_alloc | apply Kd.R_drewN | apply Kd.R_drew)); exact HO_7.out⟩, ⟨by repeat (first | (with_reducible first | exact HB.out | apply below_alloc | apply pw_below_drewN | apply below_drew1) | exact HB.out)⟩⟩
                · rw [if_neg c21] at H
                  have c21b0 : (((rd_T31 x7_2 x8_2).f0) == 12) = false := beq_eq_false_iff_ne.mpr c21
                  clear c21
                  have H' := Aside0.mk H
                  clear H
                  go_wp2
                  go_roundg k2
                  case measure => have := HK1.out; have := HK2.out; omega
                  case rel => exact ⟨(x7_2), (wrap64 (x8_2 + 1)), (by first | rfl | (simp; done) | (simp [*]; done)), H', ⟨by have := HK1.out; have := HK2.out; omega⟩, ⟨by (with_reducible repeat (first | apply Kd.R_alloc | apply Kd.R_drewN | apply Kd.R_drew)); exact HO_7.out⟩, ⟨by repeat (first | (with_reducible first | exact HB.out | apply below_alloc | apply pw_below_drewN | apply below_drew1) | exact HB.out)⟩⟩
            · rw [if_neg c12] at H
              have c12b0 : decide (x8_2 < (l0.length : Int)) = false := decide_eq_false c12
              clear c12
              simp only [Option.some.injEq, Prod.mk.injEq] at H
              obtain ⟨rfl, rfl⟩ := H
              go_wp2
              go_ret2
              exact ⟨_, rfl, by (with_reducible repeat (first | apply Kd.R_alloc | apply Kd.R_drewN | apply Kd.R_drew)); exact HO_7.out, by repeat (first | (with_reducible first | exact HB.out | apply below_alloc | apply pw_below_drewN | apply below_drew1) | exact HB.out)⟩

/-! ### selfstabref05_Rename: function 27 -/
mutual
def selfstabref05_Rename.l0 : Nat → List (S31) → List Int → Int → Option ((List (S31)) × Int)
  | 0, _, _, _ => none
  | k + 1, x0, x1, x6 => if x6 < (x1.length : Int) then (if 0 ≤ x6 then (if (rd x1 x6) < 0 then (some (([] : List (S31)), 2)) else (if (rd x1 x6) ≥ 6 then (some (([] : List (S31)), 2)) else (selfstabref05_Rename.l0 k x0 x1 (wrap64 (x6 + 1))))) else (none)) else (if ([] : List (S31)).length + x0.length < 8796093022208 then (selfstabref05_Rename.l1 k x1 (([] : List (S31)) ++ x0) 0) else (none))
def selfstabref05_Rename.l1 : Nat → List Int → List (S31) → Int → Option ((List (S31)) × Int)
  | 0, _, _, _ => none
  | k + 1, x1, x7, x8 => if x8 < (x7.length : Int) then (if 0 ≤ x8 then (if ((rd_T31 x7 x8).f0) = 5 then (if 0 ≤ ((rd_T31 x7 x8).f1) then (if ((rd_T31 x7 x8).f1) < (x1.length : Int) then (selfstabref05_Rename.l1 k x1 (x7.set (x8 : Int).toNat (⟨(rd_T31 x7 x8).f0, rd x1 ((rd_T31 x7 x8).f1)⟩ : S31)) (wrap64 (x8 + 1))) else (none)) else (none)) else (if ((rd_T31 x7 x8).f0) = 12 then (if 0 ≤ ((rd_T31 x7 x8).f1) then (if ((rd_T31 x7 x8).f1) < (x1.length : Int) then (selfstabref05_Rename.l1 k x1 (x7.set (x8 : Int).toNat (⟨(rd_T31 x7 x8).f0, rd x1 ((rd_T31 x7 x8).f1)⟩ : S31)) (wrap64 (x8 + 1))) else (none)) else (none)) else (selfstabref05_Rename.l1 k x1 x7 (wrap64 (x8 + 1))))) else (none)) else (some (x7, 0))
end
def selfstabref05_Rename.f (k : Nat) (l0 : List (S31)) (l1 : List Int) : Option ((List (S31)) × Int) := (selfstabref05_Valid.f k l0 (l1.length : Int)).bind fun t299 => (if t299 = true then (selfstabref05_Rename.l0 k l0 l1 0) else (some (([] : List (S31)), 7)))
theorem selfstabref05_Rename.mono_l : ∀ k, (∀ y0 y1 y2, LeO (selfstabref05_Rename.l0 k y0 y1 y2) (selfstabref05_Rename.l0 (k + 1) y0 y1 y2)) ∧ (∀ y0 y1 y2, LeO (selfstabref05_Rename.l1 k y0 y1 y2) (selfstabref05_Rename.l1 (k + 1) y0 y1 y2))
  | 0 => ⟨fun _ _ _ r h => by simp [selfstabref05_Rename.l0] at h, fun _ _ _ r h => by simp [selfstabref05_Rename.l1] at h⟩
  | k + 1 => by
    obtain ⟨ih0, ih1⟩ := selfstabref05_Rename.mono_l k
    refine ⟨?_, ?_⟩
    · intro y0 y1 y2
      unfold selfstabref05_Rename.l0
      repeat' first
      | (with_reducible exact ih0 _ _ _)
      | (with_reducible exact ih1 _ _ _)
      | (with_reducible exact selfstabref05_Valid.mono _ _ _)
      | (with_reducible exact LeO.refl _)
      | (with_reducible exact LeO.none _)
      | (with_reducible refine LeO.ite ?_ ?_)
      | (with_reducible refine LeO.bind ?_ (fun _ => ?_))
      | exact ih0 _ _ _
      | exact ih1 _ _ _
      | exact selfstabref05_Valid.mono _ _ _
      | exact LeO.none _
      | refine LeO.ite ?_ ?_
      | refine LeO.bind ?_ (fun _ => ?_)
    · intro y0 y1 y2
      unfold selfstabref05_Rename.l1
      repeat' first
      | (with_reducible exact ih0 _ _ _)
      | (with_reducible exact ih1 _ _ _)
      | (with_reducible exact selfstabref05_Valid.mono _ _ _)
      | (with_reducible exact LeO.refl _)
      | (with_reducible exact LeO.none _)
      | (with_reducible refine LeO.ite ?_ ?_)
      | (with_reducible refine LeO.bind ?_ (fun _ => ?_))
      | exact ih0 _ _ _
      | exact ih1 _ _ _
      | exact selfstabref05_Valid.mono _ _ _
      | exact LeO.none _
      | refine LeO.ite ?_ ?_
      | refine LeO.bind ?_ (fun _ => ?_)
theorem selfstabref05_Rename.mono : ∀ a0 a1 k, LeO (selfstabref05_Rename.f k a0 a1) (selfstabref05_Rename.f (k + 1) a0 a1) := by
  intro a0 a1 k
  obtain ⟨ih0, ih1⟩ := selfstabref05_Rename.mono_l k
  unfold selfstabref05_Rename.f
  repeat' first
      | (with_reducible exact ih0 _ _ _)
      | (with_reducible exact ih1 _ _ _)
      | (with_reducible exact selfstabref05_Valid.mono _ _ _)
      | (with_reducible exact LeO.refl _)
      | (with_reducible exact LeO.none _)
      | (with_reducible refine LeO.ite ?_ ?_)
      | (with_reducible refine LeO.bind ?_ (fun _ => ?_))
      | exact ih0 _ _ _
      | exact ih1 _ _ _
      | exact selfstabref05_Valid.mono _ _ _
      | exact LeO.none _
      | refine LeO.ite ?_ ?_
      | refine LeO.bind ?_ (fun _ => ?_)
set_option maxHeartbeats 6000000 in
set_option maxRecDepth 100000 in
theorem selfstabref05_Rename.calls (k : Nat) (A0 : Option Addr) (c0 : Nat) (l0 : List (S31)) (A1 : Option Addr) (c1 : Nat) (l1 : List Int) (r1 : List (S31)) (r2 : Int) (w : World) (hr0 : Kd.C k31 w A0 l0.length l0) (hc0 : l0.length ≤ c0) (hr1 : Kd.C (Kd.int .i64) w A1 l1.length l1) (hc1 : l1.length ≤ c1) (h : selfstabref05_Rename.f k l0 l1 = some (r1, r2)) :
    Calls Try.prog 27 #[.slice A0 l0.length c0, .slice A1 l1.length c1] w fun e w' => ∃ v0_ : Value, e = .returned (.tuple #[v0_, .int .i64 r2]) ∧ Kd.R k31 31 w' w.heap.size (fun _ => True) v0_ r1 ∧ Below w.heap.size w w' := by
  have HR0 := Aside0.mk hr0
  have HC0 := Aside0.mk hc0
  clear hr0 hc0
  have HR1 := Aside0.mk hr1
  have HC1 := Aside0.mk hc1
  clear hr1 hc1
  have HB := Aside0.mk (Below.refl w.heap.size w)
  have H : ((selfstabref05_Valid.f k l0 (l1.length : Int)).bind fun t299 => (if t299 = true then (selfstabref05_Rename.l0 k l0 l1 0) else (some (([] : List (S31)), 7)))) = some (r1, r2) := h
  clear h
  replace H := Option.bind_eq_some_iff.mp H
  obtain ⟨t299, A30, H⟩ := H
  replace H : (if t299 = true then (selfstabref05_Rename.l0 k l0 l1 0) else (some (([] : List (S31)), 7))) = some (r1, r2) := H
  have A3 := Aside0.mk A30
  clear A30
  by_cases c4 : t299 = true
  · subst c4
    have H1 : (selfstabref05_Rename.l0 k l0 l1 0) = some (r1, r2) := by rw [if_pos rfl] at H; exact H
    clear H
    have H := H1
    clear H1
    have H' := Aside0.mk H
    clear H
    go_enter Try.func27, Try.ntmps27
    go_wp2_with (first | ((with_reducible refine gate_callee (f := 22) rfl ?_); refine goesL_ (some 12) rfl rfl Try.func22 (by kernel_rfl) rfl #[.slice A0 l0.length c0, .int .i64 (l1.length : Int)] rfl (by (try simp only [List.map_toArray, List.map_cons, List.map_nil]); first | done | rfl | (simp only [List.length_drop, List.length_take]; rfl)) ?_; (with_reducible refine (selfstabref05_Valid.calls k _ _ l0 (l1.length : Int) true _ ?side1 ?side2 A3.out).mono ?_); (case side1 => repeat (first | exact HR0.out | (with_reducible refine Kd.C_alloc ?_ _) | (with_reducible refine Kd.C_drewN ?_ _) | (with_reducible refine Kd.C_drew ?_))); (case side2 => exact HC0.out); rintro e w5 ⟨rfl, hb⟩; refine ⟨_, rfl, ?_⟩; have n0_ := Aside0.mk (below_step (by repeat (first | (with_reducible first | exact HB.out | apply below_alloc | apply pw_below_drewN | apply below_drew1) | exact HB.out)) hb); clear HB; have HB := n0_; clear n0_; (try clear hb); (try clear hb2); (try clear hk); (try clear hi)))
    go_loopg [6] k (fun kq v6 w' => ∃ (x6_1 : Int), v6 = .int .i64 x6_1 ∧ Aside0 (selfstabref05_Rename.l0 kq l0 l1 x6_1 = some (r1, r2)) ∧ Aside0 (kq ≤ k) ∧ Aside0 (Below w.heap.size w w'))
    case atStart => exact ⟨(0), (by first | rfl | (simp; done) | (simp [*]; done)), H', ⟨Nat.le_refl _⟩, ⟨by repeat (first | (with_reducible first | exact HB.out | apply below_alloc | apply pw_below_drewN | apply below_drew1) | exact HB.out)⟩⟩
    case round =>
      clear H'
      try clear c1
      try clear c2
      try clear p2
      try clear c4
      obtain ⟨x6_1, rfl, HA, HK1, HB⟩ := hrel
      cases gk with
      | zero => exact absurd HA.out (by simp [selfstabref05_Rename.l0])
      | succ k1 =>
        have H := HA.out
        clear HA
        simp only [selfstabref05_Rename.l0] at H
        by_cases c6 : x6_1 < (l1.length : Int)
        · rw [if_pos c6] at H
          have c6b0 : decide (x6_1 < (l1.length : Int)) = true := decide_eq_true c6
          clear c6
          by_cases c7 : 0 ≤ x6_1
          · rw [if_pos c7] at H
            have c7b0 : decide (0 ≤ x6_1) = true := decide_eq_true c7
            clear c7
            by_cases c8 : (rd l1 x6_1) < 0
            · rw [if_pos c8] at H
              have c8b0 : decide ((rd l1 x6_1) < 0) = true := decide_eq_true c8
              clear c8
              simp only [Option.some.injEq, Prod.mk.injEq] at H
              obtain ⟨rfl, rfl⟩ := H
              have p300 : 0 ≤ (x6_1 : Int) := of_decide_eq_true (by first | (with_reducible assumption) | assumption)
              have q300 : x6_1 < (l1.length : Int) := of_decide_eq_true (by first | (with_reducible assumption) | assumption)
              obtain ⟨ad300, e300, hx300_0⟩ := Kd.at_int HR1.out x6_1 p300 q300
              cases e300
              replace hx300_0 := (HB.out.cell (World.block_lt_of_cell? w _ hx300_0)).trans hx300_0
              replace p300 := eq_true p300
              replace q300 := eq_true q300
              go_wp2
              go_ret2
              exact ⟨_, by first | rfl | (simp [errW_none, errW_some] <;> rfl) | (simp [*, errW_none, errW_some] <;> rfl), by first | exact Kd.R_nil _ _ _ _ _ | exact Kd.N_nil _ _ _ _ _ | exact Kd.V_nil _ _ _ _ _ | exact Kd.Q_nil _ _ _ _ _ | exact Kd.S_nil _ _ _ _ _, by repeat (first | (with_reducible first | exact HB.out | apply below_alloc | apply pw_below_drewN | apply below_drew1) | exact HB.out)⟩
            · rw [if_neg c8] at H
              have c8b0 : decide ((rd l1 x6_1) < 0) = false := decide_eq_false c8
              clear c8
              by_cases c9 : (rd l1 x6_1) ≥ 6
              · rw [if_pos c9] at H
                have c9b0 : decide (6 ≤ (rd l1 x6_1)) = true := decide_eq_true c9
                clear c9
                simp only [Option.some.injEq, Prod.mk.injEq] at H
                obtain ⟨rfl, rfl⟩ := H
                have p300 : 0 ≤ (x6_1 : Int) := of_decide_eq_true (by first | (with_reducible assumption) | assumption)
                have q300 : x6_1 < (l1.length : Int) := of_decide_eq_true (by first | (with_reducible assumption) | assumption)
                obtain ⟨ad300, e300, hx300_0⟩ := Kd.at_int HR1.out x6_1 p300 q300
                cases e300
                replace hx300_0 := (HB.out.cell (World.block_lt_of_cell? w _ hx300_0)).trans hx300_0
                replace p300 := eq_true p300
                replace q300 := eq_true q300
                have p301 : 0 ≤ (x6_1 : Int) := of_decide_eq_true (by first | (with_reducible assumption) | assumption)
                have q301 : x6_1 < (l1.length : Int) := of_decide_eq_true (by first | (with_reducible assumption) | assumption)
                obtain ⟨ad301, e301, hx301_0⟩ := Kd.at_int HR1.out x6_1 p301 q301
                obtain rfl : ad300 = ad301 := (by injection e301)
                replace hx301_0 := (HB.out.cell (World.block_lt_of_cell? w _ hx301_0)).trans hx301_0
                replace p301 := eq_true p301
                replace q301 := eq_true q301
                go_wp2
                go_ret2
                exact ⟨_, by first | rfl | (simp [errW_none, errW_some] <;> rfl) | (simp [*, errW_none, errW_some] <;> rfl), by first | exact Kd.R_nil _ _ _ _ _ | exact Kd.N_nil _ _ _ _ _ | exact Kd.V_nil _ _ _ _ _ | exact Kd.Q_nil _ _ _ _ _ | exact Kd.S_nil _ _ _ _ _, by repeat (first | (with_reducible first | exact HB.out | apply below_alloc | apply pw_below_drewN | apply below_drew1) | exact HB.out)⟩
              · rw [if_neg c9] at H
                have c9b0 : decide (6 ≤ (rd l1 x6_1)) = false := decide_eq_false c9
                clear c9
                have H' := Aside0.mk H
                clear H
                have p300 : 0 ≤ (x6_1 : Int) := of_decide_eq_true (by first | (with_reducible assumption) | assumption)
                have q300 : x6_1 < (l1.length : Int) := of_decide_eq_true (by first | (with_reducible assumption) | assumption)
                obtain ⟨ad300, e300, hx300_0⟩ := Kd.at_int HR1.out x6_1 p300 q300
                cases e300
                replace hx300_0 := (HB.out.cell (World.block_lt_of_cell? w _ hx300_0)).trans hx300_0
                replace p300 := eq_true p300
                replace q300 := eq_true q300
                have p301 : 0 ≤ (x6_1 : Int) := of_decide_eq_true (by first | (with_reducible assumption) | assumption)
                have q301 : x6_1 < (l1.length : Int) := of_decide_eq_true (by first | (with_reducible assumption) | assumption)
                obtain ⟨ad301, e301, hx301_0⟩ := Kd.at_int HR1.out x6_1 p301 q301
                obtain rfl : ad300 = ad301 := (by injection e301)
                replace hx301_0 := (HB.out.cell (World.block_lt_of_cell? w _ hx301_0)).trans hx301_0
                replace p301 := eq_true p301
                replace q301 := eq_true q301
                go_wp2
                go_roundg k1
                case measure => have := HK1.out; omega
                case rel => exact ⟨(wrap64 (x6_1 + 1)), (by first | rfl | (simp; done) | (simp [*]; done)), H', ⟨by have := HK1.out; omega⟩, ⟨by repeat (first | (with_reducible first | exact HB.out | apply below_alloc | apply pw_below_drewN | apply below_drew1) | exact HB.out)⟩⟩
          · rw [if_neg c7] at H
            exact absurd H (by simp)
        · rw [if_neg c6] at H
          have c6b0 : decide (x6_1 < (l1.length : Int)) = false := decide_eq_false c6
          clear c6
          by_cases c10 : ([] : List (S31)).length + l0.length < 8796093022208
          · rw [if_pos c10] at H
            have LMc10 := Aside0.mk c10
            clear c10
            obtain ⟨y302, hy302⟩ : ∃ y_ : List (S31), y_ = (([] : List (S31)) ++ l0) := ⟨_, rfl⟩
            replace H : (selfstabref05_Rename.l1 k1 l1 y302 0) = some (r1, r2) := by first | (rw [hy302]; with_reducible exact H) | (have H2_ := (Option.bind_some _ _).symm.trans H; rw [hy302]; with_reducible exact H2_) | (have H2_ := (Option.bind_some _ _).symm.trans H; with_reducible exact H2_) | with_reducible exact H | (rw [hy302]; exact H) | exact H
            have Ny302 := Aside0.mk hy302
            clear hy302
            have H' := Aside0.mk H
            clear H
            go_wp2_with (first | ((with_reducible refine gate_builtin (b := .append) (xs := #[.const (.slice none 0 0), .tmp 32]) rfl ?_); at_builtin; refine Kd.R_append_rows k31 (w0 := w) w.heap.size rfl (.const (.slice none 0 0)) (.tmp 32) 22 31 (.agg #[(.int .i64 0), (.int .i64 0)]) 16 rfl Try.underlying22 info31 rfl (by decide) (by omega) (.slice none 0 0) ([] : List (S31)) l0 _ _ _ (fun _ => True) (fun _ => False) rfl rfl ?aO ?aR (fun _ _ h => h) (fun _ h => h.elim) ?aF ?aB ?aS ?aL ?_; (case aR => (try change Kd.C k31 _ _ _ _); repeat (first | exact (Kd.C_below HR0.out HB.out) | (with_reducible refine Kd.C_alloc ?_ _) | (with_reducible refine Kd.C_drewN ?_ _) | (with_reducible refine Kd.C_drew ?_))); (case aB => exact (by repeat (first | (with_reducible first | exact HB.out | apply below_alloc | apply pw_below_drewN | apply below_drew1) | exact HB.out))); (case aF => exact (fun _ _ => trivial)); (case aO => exact ((Kd.R_nil _ _ _ _ (fun _ => True)))); (case aS => exact (below_size (by repeat (first | (with_reducible first | exact HB.out | apply below_alloc | apply pw_below_drewN | apply below_drew1) | exact HB.out)))); (case aL => have := LMc10.out; omega); intro v303 w11 ho hb hg hat; rw [← Ny302.out] at ho; have n0_ := Aside0.mk (hb); have n1_ := Aside0.mk (ho); clear HB; have HB := n0_; have HO304 := n1_; clear n0_ n1_; clear ho hb hg hat))
            go_loopg [8] k1 (fun kq v8 w' => ∃ (x7_2 : List (S31)) (x8_2 : Int), v8 = .int .i64 x8_2 ∧ Aside0 (selfstabref05_Rename.l1 kq l1 x7_2 x8_2 = some (r1, r2)) ∧ Aside0 (kq ≤ k1) ∧ Aside0 (Kd.R k31 31 w' w.heap.size (fun _ => True) v303 x7_2) ∧ Aside0 (Below w.heap.size w w'))
            case atStart => exact ⟨(y302), (0), (by first | rfl | (simp; done) | (simp [*]; done)), H', ⟨Nat.le_refl _⟩, ⟨by (with_reducible repeat (first | apply Kd.R_alloc | apply Kd.R_drewN | apply Kd.R_drew)); exact HO304.out⟩, ⟨by repeat (first | (with_reducible first | exact HB.out | apply below_alloc | apply pw_below_drewN | apply below_drew1) | exact HB.out)⟩⟩
            case round =>
              clear H'
              try clear c1
              try clear c2
              try clear p2
              try clear p3
              try clear q3
              try clear hx3
              try clear c4
              try clear c6
              try clear c6b0
              try clear p6
              try clear c7
              try clear c7b0
              try clear c8
              try clear c8b0
              try clear c9
              try clear c9b0
              try clear c10
              try clear hx300_0
              try clear hx301_0
              try clear p2
              try clear p300
              try clear p301
              try clear q300
              try clear q301
              obtain ⟨x7_2, x8_2, rfl, HA, HK2, HO_7, HB⟩ := hrel
              cases gk with
              | zero => exact absurd HA.out (by simp [selfstabref05_Rename.l1])
              | succ k2 =>
                have H := HA.out
                clear HA
                simp only [selfstabref05_Rename.l1] at H
                by_cases c12 : x8_2 < (x7_2.length : Int)
                · rw [if_pos c12] at H
                  have c12b0 : decide (x8_2 < (x7_2.length : Int)) = true := decide_eq_true c12
                  clear c12
                  by_cases c13 : 0 ≤ x8_2
                  · rw [if_pos c13] at H
                    have c13b0 : decide (0 ≤ x8_2) = true := decide_eq_true c13
                    clear c13
                    by_cases c14 : ((rd_T31 x7_2 x8_2).f0) = 5
                    · rw [if_pos c14] at H
                      have c14b0 : (((rd_T31 x7_2 x8_2).f0) == 5) = true := beq_iff_eq.mpr c14
                      have c14b1 : (((rd_T31 x7_2 x8_2).f0) != 5) = false := bne_eq_false_iff_eq.mpr c14
                      clear c14
                      by_cases c15 : 0 ≤ ((rd_T31 x7_2 x8_2).f1)
                      · rw [if_pos c15] at H
                        have c15b0 : decide (0 ≤ ((rd_T31 x7_2 x8_2).f1)) = true := decide_eq_true c15
                        clear c15
                        by_cases c16 : ((rd_T31 x7_2 x8_2).f1) < (l1.length : Int)
                        · rw [if_pos c16] at H
                          have c16b0 : decide (((rd_T31 x7_2 x8_2).f1) < (l1.length : Int)) = true := decide_eq_true c16
                          clear c16
                          obtain ⟨y308, hy308⟩ : ∃ y_ : List (S31), y_ = (x7_2.set (x8_2 : Int).toNat (⟨(rd_T31 x7_2 x8_2).f0, rd l1 ((rd_T31 x7_2 x8_2).f1)⟩ : S31)) := ⟨_, rfl⟩
                          replace H : (selfstabref05_Rename.l1 k2 l1 y308 (wrap64 (x8_2 + 1))) = some (r1, r2) := by first | (rw [hy308]; with_reducible exact H) | (have H2_ := (Option.bind_some _ _).symm.trans H; rw [hy308]; with_reducible exact H2_) | (have H2_ := (Option.bind_some _ _).symm.trans H; with_reducible exact H2_) | with_reducible exact H | (rw [hy308]; exact H) | exact H
                          have Ny308 := Aside0.mk hy308
                          clear hy308
                          have H' := Aside0.mk H
                          clear H
                          obtain ⟨Ao18, co18, eo18⟩ := Kd.R_slice HO_7.out
                          subst eo18
                          have p305 : 0 ≤ (x8_2 : Int) := of_decide_eq_true (by first | (with_reducible assumption) | assumption)
                          have q305 : x8_2 < (x7_2.length : Int) := of_decide_eq_true (by first | (with_reducible assumption) | assumption)
                          obtain ⟨ad305, e305, hx305_0, hx305_1⟩ := at_T31 (Kd.R_reads' HO_7.out).2.2 x8_2 p305 q305
                          cases e305
                          replace p305 := eq_true p305
                          replace q305 := eq_true q305
                          have p306 : 0 ≤ (x8_2 : Int) := of_decide_eq_true (by first | (with_reducible assumption) | assumption)
                          have q306 : x8_2 < (x7_2.length : Int) := of_decide_eq_true (by first | (with_reducible assumption) | assumption)
                          obtain ⟨ad306, e306, hx306_0, hx306_1⟩ := at_T31 (Kd.R_reads' HO_7.out).2.2 x8_2 p306 q306
                          obtain rfl : ad305 = ad306 := (by injection e306)
                          replace p306 := eq_true p306
                          replace q306 := eq_true q306
                          have p307 : 0 ≤ (((rd_T31 x7_2 x8_2).f1) : Int) := of_decide_eq_true (by first | (with_reducible assumption) | assumption)
                          have q307 : ((rd_T31 x7_2 x8_2).f1) < (l1.length : Int) := of_decide_eq_true (by first | (with_reducible assumption) | assumption)
                          obtain ⟨ad307, e307, hx307_0⟩ := Kd.at_int HR1.out ((rd_T31 x7_2 x8_2).f1) p307 q307
                          cases e307
                          replace hx307_0 := (HB.out.cell (World.block_lt_of_cell? w _ hx307_0)).trans hx307_0
                          replace p307 := eq_true p307
                          replace q307 := eq_true q307
                          have p17 : 0 ≤ (x8_2 : Int) := of_decide_eq_true (by first | (with_reducible assumption) | assumption)
                          have q17 : (x8_2 : Int) < ((x7_2.length : Int) : Int) := of_decide_eq_true (by first | (with_reducible assumption) | assumption)
                          obtain ⟨go17, co17, eo17, gb17, gl17, cl17, HG17⟩ := Kd.R_form HO_7.out (by omega)
                          (first | cases eo17 | (injection eo17 with ea_ en_ ec_; (first | subst ea_ | (injection ea_ with ea_; subst ea_)); subst ec_; clear en_))
                          have GB17 := Aside0.mk gb17
                          have GG17 := Aside0.mk HG17
                          clear gb17 gl17 HG17
                          (first | simp only [add_plain] at hx305_0 | skip)
                          (first | simp only [add_plain] at hx305_1 | skip)
                          (first | simp only [add_plain] at hx306_0 | skip)
                          (first | simp only [add_plain] at hx306_1 | skip)
                          obtain ⟨ce17, hcl17, hM17, hcc17, hfr17⟩ := Kd.R_elem HO_7.out z31 (x8_2 : Int) p17 q17
                          obtain rfl := k31_openM hM17
                          have hx17_0 : wr.cell? ⟨go17, (x8_2 : Int).toNat * 2, none⟩ = some (.int .i64 ((rd_T31 x7_2 x8_2).f0)) := hcc17 0 _ rfl
                          have hx17_1 : wr.cell? ⟨go17, (x8_2 : Int).toNat * 2 + 1, none⟩ = some (.int .i64 ((rd_T31 x7_2 x8_2).f1)) := hcc17 1 _ rfl
                          have hf17_0 : wr.frozen? ⟨go17, (x8_2 : Int).toNat * 2, none⟩ = false := hfr17 0
                          have hf17_1 : wr.frozen? ⟨go17, (x8_2 : Int).toNat * 2 + 1, none⟩ = false := hfr17 1
                          clear hcl17 hcc17 hfr17 hM17
                          replace p17 := eq_true p17
                          replace q17 := eq_true q17
                          have HX19 := Aside0.mk (show Kd.R k31 31 wr w.heap.size (fun _ => True) (.slice (some ⟨go17, 0, none⟩) x7_2.length co18) x7_2 from (by (with_reducible repeat (first | apply Kd.R_alloc | apply Kd.R_drewN | apply Kd.R_drew)); exact HO_7.out))
                          obtain ⟨ce19, hcl19, hM19, hcc19, hfr19⟩ := Kd.R_elem HX19.out z31 (x8_2 : Int) (of_decide_eq_true (by first | (with_reducible assumption) | assumption)) (by have h_ : (x8_2 : Int) < ((x7_2.length : Int) : Int) := of_decide_eq_true (by first | (with_reducible assumption) | assumption); first | exact h_ | (have e_ := (Kd.R_reads' HO_7.out).1; omega) | simpa using h_)
                          obtain rfl := k31_openM hM19
                          have HP19 := Kd.R_seg HX19.out (x8_2 : Int) (of_decide_eq_true (by first | (with_reducible assumption) | assumption)) (by have h_ : (x8_2 : Int) < ((x7_2.length : Int) : Int) := of_decide_eq_true (by first | (with_reducible assumption) | assumption); first | exact h_ | (have e_ := (Kd.R_reads' HO_7.out).1; omega) | simpa using h_) (seg := [.int .i64 (rd l1 ((rd_T31 x7_2 x8_2).f1))]) (j := 1) hcl19 hcc19 (show 2 ≤ 2 from by decide) (x' := (⟨(rd_T31 x7_2 x8_2).f0, rd l1 ((rd_T31 x7_2 x8_2).f1)⟩ : S31)) (k31_mkM _ _ _ (⟨(rd_T31 x7_2 x8_2).f0, rd l1 ((rd_T31 x7_2 x8_2).f1)⟩ : S31) ) (fun _ hk => hk)
                          have hx19_1 := hcc19 1 _ rfl
                          (try simp only [show (k31).sz = 2 from rfl, Nat.mul_one, Nat.add_zero] at hx19_1)
                          have hf19_1 := hfr19 1
                          (try simp only [show (k31).sz = 2 from rfl, Nat.mul_one, Nat.add_zero] at hf19_1)
                          clear hcl19 hcc19 hfr19 hM19
                          go_wp2_with (first | ((with_reducible refine gate_store (t := 3) (p := 65) rfl ?_); refine store_event (t := 3) (p := 65) (v := ?vo_w20) (w1 := (wr.setCell ⟨go17, (x8_2 : Int).toNat * 2 + 1, none⟩ (.int .i64 (rd l1 ((rd_T31 x7_2 x8_2).f1))))) ?hg ?ho ?hn ?hr ?_; (case ho => rfl); (case hg => rfl); (case hn => rfl); (case hr => first | (go_simp; done) | (go_simp; rfl)); intro w20 hw; have hg : wr.grownBy w20 (some go17) := (by rw [hw]; exact HP19.2); have hp_ : Kd.R k31 31 w20 w.heap.size (fun _ => True) (.slice (some ⟨go17, 0, none⟩) x7_2.length co18) y308 := (by rw [hw, Ny308.out]; exact HP19.1); clear HP19; have n0_ := Aside0.mk (hp_); have n1_ := Aside0.mk ((by rw [hw]; exact below_set (HB.out) GB17.out : Below w.heap.size w w20)); clear HO_7; clear HB; have HO_7 := n0_; have HB := n1_; clear n0_ n1_; clear hg hw hp_))
                          go_roundg k2
                          case measure => have := HK1.out; have := HK2.out; omega
                          case rel => exact ⟨(y308), (wrap64 (x8_2 + 1)), (by first | rfl | (simp; done) | (simp [*]; done)), H', ⟨by have := HK1.out; have := HK2.out; omega⟩, ⟨by (with_reducible repeat (first | apply Kd.R_alloc | apply Kd.R_drewN | apply Kd.R_drew)); exact HO_7.out⟩, ⟨by repeat (first | (with_reducible first | exact HB.out | apply below_alloc | apply pw_below_drewN | apply below_drew1) | exact HB.out)⟩⟩
                        · rw [if_neg c16] at H
                          exact absurd H (by simp)
                      · rw [if_neg c15] at H
                        exact absurd H (by simp)
                    · rw [if_neg c14] at H
                      have c14b0 : (((rd_T31 x7_2 x8_2).f0) == 5) = false := beq_eq_false_iff_ne.mpr c14
                      have c14b1 : (((rd_T31 x7_2 x8_2).f0) != 5) = true := bne_iff_ne.mpr c14
                      by_cases c21 : ((rd_T31 x7_2 x8_2).f0) = 12
                      · rw [if_pos c21] at H
                        have c21b0 : (((rd_T31 x7_2 x8_2).f0) == 12) = true := beq_iff_eq.mpr c21
                        have c21b1 : (((rd_T31 x7_2 x8_2).f0) != 12) = false := bne_eq_false_iff_eq.mpr c21
                        clear c21
                        by_cases c22 : 0 ≤ ((rd_T31 x7_2 x8_2).f1)
                        · rw [if_pos c22] at H
                          have c22b0 : decide (0 ≤ ((rd_T31 x7_2 x8_2).f1)) = true := decide_eq_true c22
                          clear c22
                          by_cases c23 : ((rd_T31 x7_2 x8_2).f1) < (l1.length : Int)
                          · rw [if_pos c23] at H
                            have c23b0 : decide (((rd_T31 x7_2 x8_2).f1) < (l1.length : Int)) = true := decide_eq_true c23
                            clear c23
                            obtain ⟨y312, hy312⟩ : ∃ y_ : List (S31), y_ = (x7_2.set (x8_2 : Int).toNat (⟨(rd_T31 x7_2 x8_2).f0, rd l1 ((rd_T31 x7_2 x8_2).f1)⟩ : S31)) := ⟨_, rfl⟩
                            replace H : (selfstabref05_Rename.l1 k2 l1 y312 (wrap64 (x8_2 + 1))) = some (r1, r2) := by first | (rw [hy312]; with_reducible exact H) | (have H2_ := (Option.bind_some _ _).symm.trans H; rw [hy312]; with_reducible exact H2_) | (have H2_ := (Option.bind_some _ _).symm.trans H; with_reducible exact H2_) | with_reducible exact H | (rw [hy312]; exact H) | exact H
                            have Ny312 := Aside0.mk hy312
                            clear hy312
                            have H' := Aside0.mk H
                            clear H
                            obtain ⟨Ao25, co25, eo25⟩ := Kd.R_slice HO_7.out
                            subst eo25
                            have p305 : 0 ≤ (x8_2 : Int) := of_decide_eq_true (by first | (with_reducible assumption) | assumption)
                            have q305 : x8_2 < (x7_2.length : Int) := of_decide_eq_true (by first | (with_reducible assumption) | assumption)
                            obtain ⟨ad305, e305, hx305_0, hx305_1⟩ := at_T31 (Kd.R_reads' HO_7.out).2.2 x8_2 p305 q305
                            cases e305
                            replace p305 := eq_true p305
                            replace q305 := eq_true q305
                            have p309 : 0 ≤ (x8_2 : Int) := of_decide_eq_true (by first | (with_reducible assumption) | assumption)
                            have q309 : x8_2 < (x7_2.length : Int) := of_decide_eq_true (by first | (with_reducible assumption) | assumption)
                            obtain ⟨ad309, e309, hx309_0, hx309_1⟩ := at_T31 (Kd.R_reads' HO_7.out).2.2 x8_2 p309 q309
                            obtain rfl : ad305 = ad309 := (by injection e309)
                            replace p309 := eq_true p309
                            replace q309 := eq_true q309
                            have p310 : 0 ≤ (x8_2 : Int) := of_decide_eq_true (by first | (with_reducible assumption) | assumption)
                            have q310 : x8_2 < (x7_2.length : Int) := of_decide_eq_true (by first | (with_reducible assumption) | assumption)
                            obtain ⟨ad310, e310, hx310_0, hx310_1⟩ := at_T31 (Kd.R_reads' HO_7.out).2.2 x8_2 p310 q310
                            obtain rfl : ad305 = ad310 := (by injection e310)
                            replace p310 := eq_true p310
                            replace q310 := eq_true q310
                            have p311 : 0 ≤ (((rd_T31 x7_2 x8_2).f1) : Int) := of_decide_eq_true (by first | (with_reducible assumption) | assumption)
                            have q311 : ((rd_T31 x7_2 x8_2).f1) < (l1.length : Int) := of_decide_eq_true (by first | (with_reducible assumption) | assumption)
                            obtain ⟨ad311, e311, hx311_0⟩ := Kd.at_int HR1.out ((rd_T31 x7_2 x8_2).f1) p311 q311
                            cases e311
                            replace hx311_0 := (HB.out.cell (World.block_lt_of_cell? w _ hx311_0)).trans hx311_0
                            replace p311 := eq_true p311
                            replace q311 := eq_true q311
                            have p24 : 0 ≤ (x8_2 : Int) := of_decide_eq_true (by first | (with_reducible assumption) | assumption)
                            have q24 : (x8_2 : Int) < ((x7_2.length : Int) : Int) := of_decide_eq_true (by first | (with_reducible assumption) | assumption)
                            obtain ⟨go24, co24, eo24, gb24, gl24, cl24, HG24⟩ := Kd.R_form HO_7.out (by omega)
                            (first | cases eo24 | (injection eo24 with ea_ en_ ec_; (first | subst ea_ | (injection ea_ with ea_; subst ea_)); subst ec_; clear en_))
                            have GB24 := Aside0.mk gb24
                            have GG24 := Aside0.mk HG24
                            clear gb24 gl24 HG24
                            (first | simp only [add_plain] at hx305_0 | skip)
                            (first | simp only [add_plain] at hx305_1 | skip)
                            (first | simp only [add_plain] at hx309_0 | skip)
                            (first | simp only [add_plain] at hx309_1 | skip)
                            (first | simp only [add_plain] at hx310_0 | skip)
                            (first | simp only [add_plain] at hx310_1 | skip)
                            obtain ⟨ce24, hcl24, hM24, hcc24, hfr24⟩ := Kd.R_elem HO_7.out z31 (x8_2 : Int) p24 q24
                            obtain rfl := k31_openM hM24
                            have hx24_0 : wr.cell? ⟨go24, (x8_2 : Int).toNat * 2, none⟩ = some (.int .i64 ((rd_T31 x7_2 x8_2).f0)) := hcc24 0 _ rfl
                            have hx24_1 : wr.cell? ⟨go24, (x8_2 : Int).toNat * 2 + 1, none⟩ = some (.int .i64 ((rd_T31 x7_2 x8_2).f1)) := hcc24 1 _ rfl
                            have hf24_0 : wr.frozen? ⟨go24, (x8_2 : Int).toNat * 2, none⟩ = false := hfr24 0
                            have hf24_1 : wr.frozen? ⟨go24, (x8_2 : Int).toNat * 2 + 1, none⟩ = false := hfr24 1
                            clear hcl24 hcc24 hfr24 hM24
                            replace p24 := eq_true p24
                            replace q24 := eq_true q24
                            have HX26 := Aside0.mk (show Kd.R k31 31 wr w.heap.size (fun _ => True) (.slice (some ⟨go24, 0, none⟩) x7_2.length co25) x7_2 from (by (with_reducible repeat (first | apply Kd.R_alloc | apply Kd.R_drewN | apply Kd.R_drew)); exact HO_7.out))
                            obtain ⟨ce26, hcl26, hM26, hcc26, hfr26⟩ := Kd.R_elem HX26.out z31 (x8_2 : Int) (of_decide_eq_true (by first | (with_reducible assumption) | assumption)) (by have h_ : (x8_2 : Int) < ((x7_2.length : Int) : Int) := of_decide_eq_true (by first | (with_reducible assumption) | assumption); first | exact h_ | (have e_ := (Kd.R_reads' HO_7.out).1; omega) | simpa using h_)
                            obtain rfl := k31_openM hM26
                            have HP26 := Kd.R_seg HX26.out (x8_2 : Int) (of_decide_eq_true (by first | (with_reducible assumption) | assumption)) (by have h_ : (x8_2 : Int) < ((x7_2.length : Int) : Int) := of_decide_eq_true (by first | (with_reducible assumption) | assumption); first | exact h_ | (have e_ := (Kd.R_reads' HO_7.out).1; omega) | simpa using h_) (seg := [.int .i64 (rd l1 ((rd_T31 x7_2 x8_2).f1))]) (j := 1) hcl26 hcc26 (show 2 ≤ 2 from by decide) (x' := (⟨(rd_T31 x7_2 x8_2).f0, rd l1 ((rd_T31 x7_2 x8_2).f1)⟩ : S31)) (k31_mkM _ _ _ (⟨(rd_T31 x7_2 x8_2).f0, rd l1 ((rd_T31 x7_2 x8_2).f1)⟩ : S31) ) (fun _ hk => hk)
                            have hx26_1 := hcc26 1 _ rfl
                            (try simp only [show (k31).sz = 2 from rfl, Nat.mul_one, Nat.add_zero] at hx26_1)
                            have hf26_1 := hfr26 1
                            (try simp only [show (k31).sz = 2 from rfl, Nat.mul_one, Nat.add_zero] at hf26_1)
                            clear hcl26 hcc26 hfr26 hM26
                            go_wp2_with (first | ((with_reducible refine gate_store (t := 3) (p := 65) rfl ?_); refine store_event (t := 3) (p := 65) (v := ?vo_w27) (w1 := (wr.setCell ⟨go24, (x8_2 : Int).toNat * 2 + 1, none⟩ (.int .i64 (rd l1 ((rd_T31 x7_2 x8_2).f1))))) ?hg ?ho ?hn ?hr ?_; (case ho => rfl); (case hg => rfl); (case hn => rfl); (case hr => first | (go_simp; done) | (go_simp; rfl)); intro w27 hw; have hg : wr.grownBy w27 (some go24) := (by rw [hw]; exact HP26.2); have hp_ : Kd.R k31 31 w27 w.heap.size (fun _ => True) (.slice (some ⟨go24, 0, none⟩) x7_2.length co25) y312 := (by rw [hw, Ny312.out]; exact HP26.1); clear HP26; have n0_ := Aside0.mk (hp_); have n1_ := Aside0.mk ((by rw [hw]; exact below_set (HB.out) GB24.out : Below w.heap.size w w27)); clear HO_7; clear HB; have HO_7 := n0_; have HB := n1_; clear n0_ n1_; clear hg hw hp_))
                            go_roundg k2
                            case measure => have := HK1.out; have := HK2.out; omega
                            case rel => exact ⟨(y312), (wrap64 (x8_2 + 1)), (by first | rfl | (simp; done) | (simp [*]; done)), H', ⟨by have := HK1.out; have := HK2.out; omega⟩, ⟨by (with_reducible repeat (first | apply Kd.R_alloc | apply Kd.R_drewN | apply Kd.R_drew)); exact HO_7.out⟩, ⟨by repeat (first | (with_reducible first | exact HB.out | apply below_alloc | apply pw_below_drewN | apply below_drew1) | exact HB.out)⟩⟩
                          · rw [if_neg c23] at H
                            exact absurd H (by simp)
                        · rw [if_neg c22] at H
                          exact absurd H (by simp)
                      · rw [if_neg c21] at H
                        have c21b0 : (((rd_T31 x7_2 x8_2).f0) == 12) = false := beq_eq_false_iff_ne.mpr c21
                        have c21b1 : (((rd_T31 x7_2 x8_2).f0) != 12) = true := bne_iff_ne.mpr c21
                        have H' := Aside0.mk H
                        clear H
                        obtain ⟨Ao28, co28, eo28⟩ := Kd.R_slice HO_7.out
                        subst eo28
                        have p305 : 0 ≤ (x8_2 : Int) := of_decide_eq_true (by first | (with_reducible assumption) | assumption)
                        have q305 : x8_2 < (x7_2.length : Int) := of_decide_eq_true (by first | (with_reducible assumption) | assumption)
                        obtain ⟨ad305, e305, hx305_0, hx305_1⟩ := at_T31 (Kd.R_reads' HO_7.out).2.2 x8_2 p305 q305
                        cases e305
                        replace p305 := eq_true p305
                        replace q305 := eq_true q305
                        have p309 : 0 ≤ (x8_2 : Int) := of_decide_eq_true (by first | (with_reducible assumption) | assumption)
                        have q309 : x8_2 < (x7_2.length : Int) := of_decide_eq_true (by first | (with_reducible assumption) | assumption)
                        obtain ⟨ad309, e309, hx309_0, hx309_1⟩ := at_T31 (Kd.R_reads' HO_7.out).2.2 x8_2 p309 q309
                        obtain rfl : ad305 = ad309 := (by injection e309)
                        replace p309 := eq_true p309
                        replace q309 := eq_true q309
                        go_wp2
                        go_roundg k2
                        case measure => have := HK1.out; have := HK2.out; omega
                        case rel => exact ⟨(x7_2), (wrap64 (x8_2 + 1)), (by first | rfl | (simp; done) | (simp [*]; done)), H', ⟨by have := HK1.out; have := HK2.out; omega⟩, ⟨by (with_reducible repeat (first | apply Kd.R_alloc | apply Kd.R_drewN | apply Kd.R_drew)); exact HO_7.out⟩, ⟨by repeat (first | (with_reducible first | exact HB.out | apply below_alloc | apply pw_below_drewN | apply below_drew1) | exact HB.out)⟩⟩
                  · rw [if_neg c13] at H
                    exact absurd H (by simp)
                · rw [if_neg c12] at H
                  have c12b0 : decide (x8_2 < (x7_2.length : Int)) = false := decide_eq_false c12
                  clear c12
                  simp only [Option.some.injEq, Prod.mk.injEq] at H
                  obtain ⟨rfl, rfl⟩ := H
                  obtain ⟨Ao29, co29, eo29⟩ := Kd.R_slice HO_7.out
                  subst eo29
                  go_wp2
                  go_ret2
                  exact ⟨_, by first | rfl | (simp [errW_none, errW_some] <;> rfl) | (simp [*, errW_none, errW_some] <;> rfl), by (with_reducible repeat (first | apply Kd.R_alloc | apply Kd.R_drewN | apply Kd.R_drew)); exact HO_7.out, by repeat (first | (with_reducible first | exact HB.out | apply below_alloc | apply pw_below_drewN | apply below_drew1) | exact HB.out)⟩
          · rw [if_neg c10] at H
            exact absurd H (by simp)
  · replace c4 := Bool.eq_false_iff.mpr c4
    subst c4
    have H1 : (some (([] : List (S31)), 7)) = some (r1, r2) := by rw [if_neg (show ¬ (false = true) by decide)] at H; exact H
    clear H
    have H := H1
    clear H1
    simp only [Option.some.injEq, Prod.mk.injEq] at H
    obtain ⟨rfl, rfl⟩ := H
    go_enter Try.func27, Try.ntmps27
    go_wp2_with (first | ((with_reducible refine gate_callee (f := 22) rfl ?_); refine goesL_ (some 12) rfl rfl Try.func22 (by kernel_rfl) rfl #[.slice A0 l0.length c0, .int .i64 (l1.length : Int)] rfl (by (try simp only [List.map_toArray, List.map_cons, List.map_nil]); first | done | rfl | (simp only [List.length_drop, List.length_take]; rfl)) ?_; (with_reducible refine (selfstabref05_Valid.calls k _ _ l0 (l1.length : Int) false _ ?side1 ?side2 A3.out).mono ?_); (case side1 => repeat (first | exact HR0.out | (with_reducible refine Kd.C_alloc ?_ _) | (with_reducible refine Kd.C_drewN ?_ _) | (with_reducible refine Kd.C_drew ?_))); (case side2 => exact HC0.out); rintro e w30 ⟨rfl, hb⟩; refine ⟨_, rfl, ?_⟩; have n0_ := Aside0.mk (below_step (by repeat (first | (with_reducible first | exact HB.out | apply below_alloc | apply pw_below_drewN | apply below_drew1) | exact HB.out)) hb); clear HB; have HB := n0_; clear n0_; (try clear hb); (try clear hb2); (try clear hk); (try clear hi)))
    go_ret2
    exact ⟨_, by first | rfl | (simp [errW_none, errW_some] <;> rfl) | (simp [*, errW_none, errW_some] <;> rfl), by first | exact Kd.R_nil _ _ _ _ _ | exact Kd.N_nil _ _ _ _ _ | exact Kd.V_nil _ _ _ _ _ | exact Kd.Q_nil _ _ _ _ _ | exact Kd.S_nil _ _ _ _ _, by repeat (first | (with_reducible first | exact HB.out | apply below_alloc | apply pw_below_drewN | apply below_drew1) | exact HB.out)⟩

end Go.Proofs.Ytbjigmgiecgolaa.P
