/- Both scans answer alike. -/
import Derived.Test.YtanickojbgceaaaFn04c
namespace Go.Proofs.Ytanickojbgceaaa.Fn04
open Go.RowKit Go.Proofs.Ytanickojbgceaaa.P Go.Proofs.YtanickojbgceaaaW.PrintWords Go.Proofs.YtanickojbgceaaaW.PrintLast Go.Proofs.YtanickojbgceaaaW.PrintMore Go.Proofs.Ytanickojbgceaaa.Math04 Go.Proofs.Ytanickojbgceaaa.Bs
set_option linter.unusedVariables false
set_option linter.unusedSimpArgs false
theorem rd_last (xs : List S32) (x : S32) : rd_T32 (xs ++ [x]) (xs.length : Int) = x := by
  unfold rd_T32
  rw [Int.toNat_natCast, List.getD_eq_getElem?_getD, List.getElem?_append_right (Nat.le_refl _), Nat.sub_self]; rfl
theorem lscan_l {a : ByteArray} (ha : fits a) (f : Nat) (l : List Int) (xs : List S32) (hf : l.length < f) (hl : l <:+ bs a) (hx : xs.length ≤ 4096) : Ev (fun k => lexer_Scan.l0 k a xs (pos a l)) (res a xs (lex f l xs.length)) := by
  refine scan_l ha lexer_Scan.l0 ?_ ?_ ?_ ?_ f l xs hf hl hx
  · intro xs
    refine Ev.step (fun k => by simp only [lexer_Scan.l0]; rfl) ?_
    exact Pv.neg (by rw [pos_nil]; omega) (Ev.now _)
  · intro xs c cs h h4
    refine Ev.step (fun k => by simp only [lexer_Scan.l0]; rfl) ?_
    exact Pv.pos (pos_lt a c cs) (Pv.pos (by omega) (Ev.now _))
  · intro xs c cs h h4 ht
    obtain ⟨q, hq, hk⟩ := next_ev ha h
    refine Ev.step (fun k => by simp only [lexer_Scan.l0]; rfl) ?_
    refine Pv.pos (pos_lt a c cs) (Pv.neg (by omega) (Ev.bind hq (Pv.neg (by rw [hk.1]; exact ht) (Pv.as (Ev.now _) ?_))))
    rw [hk.1]
  · intro xs c cs r h h4 ht hr
    obtain ⟨q, hq, hk⟩ := next_ev ha h
    have hq2 := hk.2 ht
    subst hq2
    refine Ev.step (fun k => by simp only [lexer_Scan.l0]; rfl) ?_
    refine Pv.pos (pos_lt a c cs) (Pv.neg (by omega) (Ev.bind hq (Pv.pos rfl (Pv.pos (by omega) ?_))))
    refine Pv.some_bind (f := fun k y => _) ?_
    have hlen : (xs ++ [(⟨(tok (c :: cs)).1, pos a (c :: cs), pos a (c :: cs) + (tok (c :: cs)).2.1, (tok (c :: cs)).2.2.1⟩ : S32)]).length = xs.length + 1 := by rw [List.length_append]; rfl
    have hw : wrap64 (((xs ++ [(⟨(tok (c :: cs)).1, pos a (c :: cs), pos a (c :: cs) + (tok (c :: cs)).2.1, (tok (c :: cs)).2.2.1⟩ : S32)]).length : Int) - 1) = xs.length := by
      rw [hlen, Pv.w64 (by omega) (by omega)]; omega
    rw [hw, rd_last]
    refine Pv.pos (by omega) (Pv.pos (by rw [hlen]; omega) ?_)
    show Ev (fun k => (lexer_skip.f k a (pos a (c :: cs) + (tok (c :: cs)).2.1)).bind fun t => lexer_Scan.l0 k a (xs ++ [mk a ((tok (c :: cs)).1, c :: cs, (tok (c :: cs)).2.1, (tok (c :: cs)).2.2.1)]) t) r
    rw [drop_pos (tok_len ht).2]
    exact Ev.bind (skip_f ha.small ((List.drop_suffix _ _).trans h)) hr
/-- What a scan answers: the tokens, the place of the error, the error. -/
def scanR (a : ByteArray) : List S32 × Int × Int := if a.size > 16384 then ([], 0, 3) else res a [] (lex (a.size + 1) (skipS false (bs a)) 0)
theorem skip_all (a : ByteArray) : skipS false (bs a) <:+ bs a := by
  obtain ⟨p, hp⟩ := skipS_suffix false (bs a)
  exact ⟨p, hp.symm⟩
theorem lscan (a : ByteArray) : Ev (fun k => lexer_Scan.f k a) (scanR a) := by
  unfold scanR
  by_cases h : a.size > 16384
  · rw [if_pos h]
    exact Pv.pos (show (a.size : Int) > 16384 by omega) (Ev.now _)
  · rw [if_neg h]
    have ha : fits a := by unfold fits; omega
    refine Pv.neg (show ¬ (a.size : Int) > 16384 by omega) ?_
    have z := skip_f ha.small (List.suffix_refl (bs a))
    rw [pos_all] at z
    have hl := skipS_le false (bs a)
    rw [bs_len] at hl
    exact Ev.bind z (lscan_l ha _ _ [] (by omega) (skip_all a) (by simp))
/-! the reference -/
theorem long2_u (x y : UInt8) : long2 (x.toNat : Int) (y.toNat : Int) = ([x, y] == [46, 46] || ([x, y] == [45, 62] || ([x, y] == [58, 61] || ([x, y] == [38, 38] || ([x, y] == [124, 124] || ([x, y] == [61, 61] || ([x, y] == [33, 61] || ([x, y] == [60, 61] || [x, y] == [62, 61])))))))) := by
  unfold long2
  simp only [List.contains_cons, List.contains_nil, Bool.or_false, List.cons_beq_cons, u8]
  simp
  rfl
theorem chain2 {g : Nat → Bool → Option Int} {r : Int} {L : List UInt8} (B : Bool) (hB : B = (L == [46, 46] || (L == [45, 62] || (L == [58, 61] || (L == [38, 38] || (L == [124, 124] || (L == [61, 61] || (L == [33, 61] || (L == [60, 61] || L == [62, 61])))))))))
    (h : Ev (fun k => g k B) r) : Ev (fun k => if L = [46, 46] then g k (L == [46, 46]) else (if L = [45, 62] then g k (L == [45, 62]) else (if L = [58, 61] then g k (L == [58, 61]) else (if L = [38, 38] then g k (L == [38, 38]) else (if L = [124, 124] then g k (L == [124, 124]) else (if L = [61, 61] then g k (L == [61, 61]) else (if L = [33, 61] then g k (L == [33, 61]) else (if L = [60, 61] then g k (L == [60, 61]) else (g k (L == [62, 61])))))))))) r := by
  by_cases h0 : L = [46, 46]
  · refine Pv.pos h0 ?_
    have e : (L == [46, 46]) = B := by rw [hB, h0]; rfl
    rw [e]; exact h
  refine Pv.neg h0 ?_
  by_cases h1 : L = [45, 62]
  · refine Pv.pos h1 ?_
    have e : (L == [45, 62]) = B := by rw [hB, h1]; rfl
    rw [e]; exact h
  refine Pv.neg h1 ?_
  by_cases h2 : L = [58, 61]
  · refine Pv.pos h2 ?_
    have e : (L == [58, 61]) = B := by rw [hB, h2]; rfl
    rw [e]; exact h
  refine Pv.neg h2 ?_
  by_cases h3 : L = [38, 38]
  · refine Pv.pos h3 ?_
    have e : (L == [38, 38]) = B := by rw [hB, h3]; rfl
    rw [e]; exact h
  refine Pv.neg h3 ?_
  by_cases h4 : L = [124, 124]
  · refine Pv.pos h4 ?_
    have e : (L == [124, 124]) = B := by rw [hB, h4]; rfl
    rw [e]; exact h
  refine Pv.neg h4 ?_
  by_cases h5 : L = [61, 61]
  · refine Pv.pos h5 ?_
    have e : (L == [61, 61]) = B := by rw [hB, h5]; rfl
    rw [e]; exact h
  refine Pv.neg h5 ?_
  by_cases h6 : L = [33, 61]
  · refine Pv.pos h6 ?_
    have e : (L == [33, 61]) = B := by rw [hB, h6]; rfl
    rw [e]; exact h
  refine Pv.neg h6 ?_
  by_cases h7 : L = [60, 61]
  · refine Pv.pos h7 ?_
    have e : (L == [60, 61]) = B := by rw [hB, h7]; rfl
    rw [e]; exact h
  refine Pv.neg h7 ?_
  have e : (L == [62, 61]) = B := by
    rw [hB]
    simp only [beq_eq_false_iff_ne.mpr h0, beq_eq_false_iff_ne.mpr h1, beq_eq_false_iff_ne.mpr h2, beq_eq_false_iff_ne.mpr h3, beq_eq_false_iff_ne.mpr h4, beq_eq_false_iff_ne.mpr h5, beq_eq_false_iff_ne.mpr h6, beq_eq_false_iff_ne.mpr h7, Bool.false_or]
  rw [e]; exact h
theorem chain1 {g : Nat → Bool → Option Int} {r : Int} {c : Int} (h : Ev (fun k => g k (short1 c)) r) : Ev (fun k => if c = 59 then g k (c == 59) else (if c = 58 then g k (c == 58) else (if c = 44 then g k (c == 44) else (if c = 40 then g k (c == 40) else (if c = 41 then g k (c == 41) else (if c = 46 then g k (c == 46) else (if c = 63 then g k (c == 63) else (if c = 60 then g k (c == 60) else (if c = 62 then g k (c == 62) else (if c = 43 then g k (c == 43) else (if c = 45 then g k (c == 45) else (if c = 42 then g k (c == 42) else (if c = 47 then g k (c == 47) else (if c = 37 then g k (c == 37) else (g k (c == 33)))))))))))))))) r := by
  by_cases h0 : c = 59
  · refine Pv.pos h0 ?_
    have e : (c == 59) = short1 c := by rw [h0]; rfl
    rw [e]; exact h
  refine Pv.neg h0 ?_
  by_cases h1 : c = 58
  · refine Pv.pos h1 ?_
    have e : (c == 58) = short1 c := by rw [h1]; rfl
    rw [e]; exact h
  refine Pv.neg h1 ?_
  by_cases h2 : c = 44
  · refine Pv.pos h2 ?_
    have e : (c == 44) = short1 c := by rw [h2]; rfl
    rw [e]; exact h
  refine Pv.neg h2 ?_
  by_cases h3 : c = 40
  · refine Pv.pos h3 ?_
    have e : (c == 40) = short1 c := by rw [h3]; rfl
    rw [e]; exact h
  refine Pv.neg h3 ?_
  by_cases h4 : c = 41
  · refine Pv.pos h4 ?_
    have e : (c == 41) = short1 c := by rw [h4]; rfl
    rw [e]; exact h
  refine Pv.neg h4 ?_
  by_cases h5 : c = 46
  · refine Pv.pos h5 ?_
    have e : (c == 46) = short1 c := by rw [h5]; rfl
    rw [e]; exact h
  refine Pv.neg h5 ?_
  by_cases h6 : c = 63
  · refine Pv.pos h6 ?_
    have e : (c == 63) = short1 c := by rw [h6]; rfl
    rw [e]; exact h
  refine Pv.neg h6 ?_
  by_cases h7 : c = 60
  · refine Pv.pos h7 ?_
    have e : (c == 60) = short1 c := by rw [h7]; rfl
    rw [e]; exact h
  refine Pv.neg h7 ?_
  by_cases h8 : c = 62
  · refine Pv.pos h8 ?_
    have e : (c == 62) = short1 c := by rw [h8]; rfl
    rw [e]; exact h
  refine Pv.neg h8 ?_
  by_cases h9 : c = 43
  · refine Pv.pos h9 ?_
    have e : (c == 43) = short1 c := by rw [h9]; rfl
    rw [e]; exact h
  refine Pv.neg h9 ?_
  by_cases h10 : c = 45
  · refine Pv.pos h10 ?_
    have e : (c == 45) = short1 c := by rw [h10]; rfl
    rw [e]; exact h
  refine Pv.neg h10 ?_
  by_cases h11 : c = 42
  · refine Pv.pos h11 ?_
    have e : (c == 42) = short1 c := by rw [h11]; rfl
    rw [e]; exact h
  refine Pv.neg h11 ?_
  by_cases h12 : c = 47
  · refine Pv.pos h12 ?_
    have e : (c == 47) = short1 c := by rw [h12]; rfl
    rw [e]; exact h
  refine Pv.neg h12 ?_
  by_cases h13 : c = 37
  · refine Pv.pos h13 ?_
    have e : (c == 37) = short1 c := by rw [h13]; rfl
    rw [e]; exact h
  refine Pv.neg h13 ?_
  have e : (c == 33) = short1 c := by
    unfold short1
    simp only [List.contains_cons, List.contains_nil, Bool.or_false, beqf h0, beqf h1, beqf h2, beqf h3, beqf h4, beqf h5, beqf h6, beqf h7, beqf h8, beqf h9, beqf h10, beqf h11, beqf h12, beqf h13, Bool.false_or]
  rw [e]; exact h
def signV (c : Int) (cs : List Int) : Int := match cs with
  | d :: _ => if long2 c d then 2 else if short1 c then 1 else 0
  | [] => if short1 c then 1 else 0
theorem rsign_1 {a : ByteArray} {c : Int} {cs : List Int} (h : c :: cs <:+ bs a) : Ev (fun k => selfstabref04_sign.j1 k a (pos a (c :: cs))) (if short1 c then 1 else 0) := by
  refine Ev.step (fun k => by simp only [selfstabref04_sign.j1]; rfl) ?_
  refine Pv.pos (pos_ge h) (Pv.pos (pos_lt a c cs) ?_)
  rw [bt_pos h]
  refine chain1 (g := fun k b => selfstabref04_sign.j2 k b) ?_
  refine Ev.step (fun k => by simp only [selfstabref04_sign.j2]; rfl) ?_
  by_cases hs : short1 c = true
  · exact Pv.as (Pv.pos hs (Ev.now _)) (if_pos hs).symm
  · exact Pv.as (Pv.neg hs (Ev.now _)) (if_neg hs).symm
theorem rsign_ev {a : ByteArray} (ha : fits a) {c : Int} {cs : List Int} (h : c :: cs <:+ bs a) : Ev (fun k => selfstabref04_sign.f k a (pos a (c :: cs))) (signV c cs) := by
  have h0 := pos_ge h
  have h1 := pos_lt a c cs
  have hs : (a.size : Int) ≤ 20000 := by unfold fits at ha; omega
  have hw : wrap64 (pos a (c :: cs) + 2) = pos a (c :: cs) + 2 := Pv.w64 (by omega) (by omega)
  unfold selfstabref04_sign.f
  rw [hw]
  cases cs with
  | nil =>
    refine Pv.neg ?_ (rsign_1 h)
    unfold pos; simp; omega
  | cons d ds =>
    have hle2 : pos a (c :: d :: ds) + 2 ≤ a.size := by unfold pos; simp; omega
    have hp := part h (n := 2) (by simp)
    obtain ⟨x, y, hdat, hcx, hdy⟩ := two_data (s := a.extract (pos a (c :: d :: ds)).toNat (pos a (c :: d :: ds) + 2).toNat) (c := c) (d := d) (by rw [show (2 : Int) = ((2 : Nat) : Int) from rfl, hp]; rfl)
    rw [toList_eq, hdat]
    refine Pv.pos hle2 (Pv.pos h0 (Pv.pos (by omega) ?_))
    refine chain2 (g := fun k b => selfstabref04_sign.j0 k a (pos a (c :: d :: ds)) b) (long2 c d) (by rw [hcx, hdy, long2_u]) ?_
    refine Ev.step (fun k => by simp only [selfstabref04_sign.j0]; rfl) ?_
    unfold signV
    by_cases hb : long2 c d = true
    · show Ev _ (if long2 c d = true then 2 else _)
      rw [if_pos hb]; exact Pv.pos hb (Ev.now _)
    · show Ev _ (if long2 c d = true then 2 else _)
      rw [if_neg hb]; exact Pv.neg hb (rsign_1 h)
end Go.Proofs.Ytanickojbgceaaa.Fn04
