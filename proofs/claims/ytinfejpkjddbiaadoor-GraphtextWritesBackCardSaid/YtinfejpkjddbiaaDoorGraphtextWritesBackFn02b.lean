/- Part of the proof of the law GraphtextWritesBack: Fn02b. -/
import Derived.Test.YtinfejpkjddbiaaDoorGraphtextWritesBackFn02
import Derived.Test.YtinfejpkjddbiaaDoorGraphtextWritesBackP0
import Derived.Test.YtinfejpkjddbiaaDoorGraphtextWritesBackP1
namespace Go.Proofs.YtinfejpkjddbiaaDoor.Fn02
open Go.RowKit Go.Proofs.YtinfejpkjddbiaaDoor.P Go.Proofs.YtinfejpkjddbiaaDoorW.PrintWords Go.Proofs.YtinfejpkjddbiaaDoorW.PrintLast Go.Proofs.YtinfejpkjddbiaaDoorW.PrintMore Go.Proofs.YtinfejpkjddbiaaDoor.Fn01 Go.Proofs.YtinfejpkjddbiaaDoor.Math02
set_option linter.unusedVariables false
set_option linter.unusedSimpArgs false
set_option linter.unusedSectionVars false
theorem numL_rng : ∀ (l : List UInt8) (n : Int) (i : Nat), 0 ≤ n → n < ((10 ^ i : Nat) : Int) → 0 ≤ (numL l n).1 ∧ (numL l n).1 < ((10 ^ (i + l.length) : Nat) : Int)
 | [], n, i, h0, h1 => ⟨h0, h1⟩
 | c :: cs, n, i, h0, h1 => by
  have hp : 0 < 10 ^ (i + (c :: cs).length) := Nat.pow_pos (by omega)
  unfold numL
  by_cases h2 : (c.toNat : Int) < 48
  ·rw [if_pos h2]; exact ⟨Int.le_refl _, by omega⟩
  rw [if_neg h2]
  by_cases h3 : (c.toNat : Int) > 57
  ·rw [if_pos h3]; exact ⟨Int.le_refl _, by omega⟩
  rw [if_neg h3]
  have := numL_rng cs (10 * n + ((c.toNat : Int) - 48)) (i + 1) (by omega) (by rw [Nat.pow_succ]; omega)
  rw [show i + (c :: cs).length = i + 1 + cs.length by rw [List.length_cons]; omega]
  exact this
theorem numR_rng (l : List UInt8) : 0 ≤ (numR l).1 ∧ (numR l).1 < 1000000 := by
 unfold numR
 split; · exact ⟨by decide, by decide⟩
 split; · exact ⟨by decide, by decide⟩
 split; · exact ⟨by decide, by decide⟩
 have h := numL_rng l 0 0 (Int.le_refl _) (by decide)
 have : 10 ^ (0 + l.length) ≤ 10 ^ 6 := Nat.pow_le_pow_right (by omega) (by omega)
 exact ⟨h.1, by omega⟩
def okN (l : S41) : Prop := (0 ≤ l.f0 ∧ l.f0 < 1000000) ∧ (0 ≤ l.f1 ∧ l.f1 < 1000000)
theorem linkR_ok {s : List UInt8} {l : S41} (h : linkR s = some l) : okN l := by
 unfold linkR at h
 split at h
 ·split at h
  ·split at h
   ·cases h; exact ⟨numR_rng _, numR_rng _⟩
   ·cases h
  ·cases h
 ·cases h
theorem linksR_ok : ∀ (r : List (List UInt8)) (out ps : List S41), linksR r out = some ps → (∀ l ∈ out, okN l) → ∀ l ∈ ps, okN l
 | [], out, ps, h, ho => by simp only [linksR, Option.some.injEq] at h; subst h; exact ho
 | s :: r, out, ps, h, ho => by
  unfold linksR at h
  split at h
  ·rename_i l hk
   refine linksR_ok r _ ps h (fun x hx => ?_)
   rcases List.mem_append.1 hx with hx | hx
   ·exact ho x hx
   ·rw [List.mem_singleton.1 hx]; exact linkR_ok hk
  ·cases h
theorem lineR_ok (s : List UInt8) : (0 ≤ (lineR s).1 ∧ (lineR s).1 < 1000000) ∧ (lineR s).2.1.length ≤ s.length + 1 ∧ ∀ l ∈ (lineR s).2.1, okN l := by
 have none_ : (0 ≤ ((0, [], false) : Int × List S41 × Bool).1 ∧ ((0, [], false) : Int × List S41 × Bool).1 < 1000000) ∧ ((0, [], false) : Int × List S41 × Bool).2.1.length ≤ s.length + 1 ∧ ∀ l ∈ ((0, [], false) : Int × List S41 × Bool).2.1, okN l := ⟨⟨by decide, by decide⟩, by simp, by simp⟩
 have hlen := sp_len 32 s
 unfold lineR
 split
 ·rename_i w x r hs
  rw [hs] at hlen
  split
  ·split
   ·split
    ·rename_i ps hp
     refine ⟨numR_rng _, ?_, linksR_ok r [] ps hp (by simp)⟩
     have := linksR_len r [] ps hp
     simp at this hlen ⊢; omega
    ·exact none_
   ·exact none_
  ·exact none_
 ·exact none_
structure Inv (ids : List Int) (ps : List Row) : Prop where
 i : ∀ x ∈ ids, 0 ≤ x ∧ x < 1000000
 r : ∀ r ∈ ps, r.length ≤ 1000000 ∧ ∀ l ∈ r, okN l
theorem Inv.nil : Inv [] [] := ⟨by simp, by simp⟩
theorem Inv.snoc {ids : List Int} {ps : List Row} (h : Inv ids ps) {s : List UInt8} (hs : s.length ≤ 100000) : Inv (ids ++ [(lineR s).1]) (ps ++ [(lineR s).2.1]) := by
 obtain ⟨a, b, c⟩ := lineR_ok s
 refine ⟨fun x hx => ?_, fun x hx => ?_⟩
 ·rcases List.mem_append.1 hx with hx | hx
  ·exact h.i x hx
  ·rw [List.mem_singleton.1 hx]; exact a
 ·rcases List.mem_append.1 hx with hx | hx
  ·exact h.r x hx
  ·rw [List.mem_singleton.1 hx]; exact ⟨by omega, c⟩
theorem wf_of {x : Int} (h0 : 0 ≤ x) (h1 : x < 1000000) : (Lit.int .i64 x).wf = true := by
 simp only [Lit.wf, Bool.and_eq_true, decide_eq_true_eq];constructor
 ·show -9223372036854775808 ≤ x; omega
 ·show x ≤ 9223372036854775807; omega
theorem tvalid {ids : List Int} {ps : List Row} (h : Inv ids ps) : graph_Valid.f ids ps = some (graph_Valid.val ids ps) := by
 unfold graph_Valid.f
 rw [if_pos]
 rw [Bool.and_eq_true, List.all_eq_true, List.all_eq_true]
 refine ⟨fun x hx => wf_of (h.i x hx).1 (h.i x hx).2, fun r hr => ?_⟩
 rw [Bool.and_eq_true, List.all_eq_true]
 refine ⟨decide_eq_true (h.r r hr).1, fun l hl => ?_⟩
 have := (h.r r hr).2 l hl
 rw [Bool.and_eq_true]
 exact ⟨wf_of this.1.1 this.1.2, wf_of this.2.1 this.2.2⟩
theorem rvalid_val {ids : List Int} {ps : List Row} (h : Inv ids ps) : Ev (fun k => selfstabref01_Valid.f k ids ps) (graph_Valid.val ids ps) := by
 obtain ⟨b, hb, hp⟩ := rvalid ids ps (fun r hr => (h.r r hr).1)
 refine Pv.as hb ?_
 rw [Bool.eq_iff_iff, hp, val_iff]
abbrev Out := List Int × List Row × Int × Int
def finR (ids : List Int) (ps : List Row) : Out := if graph_Valid.val ids ps = true then (ids, ps, 0, 0) else ([], [], 0, 1)
def parseR : List (List UInt8) → Nat → List Int → List Row → Out
 | [], _, ids, ps => finR ids ps
 | s :: r, i, ids, ps => if (lineR s).2.2 = true then parseR r (i + 1) (ids ++ [(lineR s).1]) (ps ++ [(lineR s).2.1]) else ([], [], ((i + 1 : Nat) : Int), 4)
theorem tparse_l0 (ws : List (List UInt8)) (hw : ∀ s ∈ ws, s.length ≤ 100000) (hl : ws.length ≤ 1000000) : ∀ (n i : Nat) (ids : List Int) (ps : List Row), i + n = ws.length → ids.length ≤ i → ps.length ≤ i → Inv ids ps →
  Ev (fun k => graphtext_Parse.l0 k (ws.map ba) ((ws.map ba).length : Int) (i : Int) ids ps) (parseR (ws.drop i) i ids ps) := by
 intro n;induction n with
 | zero =>
  intro i ids ps hi h1 h2 hv;rw [List.drop_of_length_le (by omega)]
  refine Ev.step (fun k => by simp only [graphtext_Parse.l0]; rfl) (Pv.neg (by rw [List.length_map]; omega) (Pv.const_bind (tvalid hv) ?_))
  unfold parseR finR
  by_cases h : graph_Valid.val ids ps = true
  ·exact Pv.pos h (Pv.as (Ev.now _) (if_pos h).symm)
  ·exact Pv.neg h (Pv.as (Ev.now _) (if_neg h).symm)
 | succ n ih =>
  intro i ids ps hi h1 h2 hv;have hlt : i < ws.length := by omega
  have hlt2 : i < (ws.map ba).length := by rw [List.length_map]; exact hlt
  refine Ev.step (fun k => by simp only [graphtext_Parse.l0]; rfl) (Pv.pos (by omega) (Pv.pos (by omega) (Pv.pos (by omega) ?_)))
  rw [rdB hlt2, List.getElem_map, w1 (by omega), List.drop_eq_getElem_cons hlt]
  have hs := hw _ (List.getElem_mem hlt)
  have ht := tline (ba ws[i]) (by rw [ba_size]; exact hs)
  rw [dl_ba] at ht
  refine Ev.bind ht ?_
  unfold parseR
  by_cases h : (lineR ws[i]).2.2 = true
  ·rw [if_pos h]
   refine Pv.pos h (Pv.some_bind (Pv.pos (by simp; omega) (Pv.some_bind (Pv.pos (by simp; omega) ?_))))
   exact ih (i + 1) _ _ (by omega) (by rw [List.length_append]; simp; omega) (by rw [List.length_append]; simp; omega) (hv.snoc hs)
  ·rw [if_neg h]; exact Pv.neg h (Ev.now _)
theorem rparse_l0 (ws : List (List UInt8)) (hw : ∀ s ∈ ws, s.length ≤ 100000) (hl : ws.length ≤ 1000000) : ∀ (n i : Nat) (ids : List Int) (ps : List Row), i + n = ws.length → ids.length ≤ i → ps.length ≤ i → Inv ids ps →
  Ev (fun k => selfstabref02_Parse.l0 k (ws.map ba) (i : Int) ids ps) (parseR (ws.drop i) i ids ps) := by
 intro n;induction n with
 | zero =>
  intro i ids ps hi h1 h2 hv;rw [List.drop_of_length_le (by omega)]
  refine Ev.step (fun k => by simp only [selfstabref02_Parse.l0]; rfl) (Pv.neg (by rw [List.length_map]; omega) (Ev.bind (rvalid_val hv) ?_))
  unfold parseR finR
  by_cases h : graph_Valid.val ids ps = true
  ·exact Pv.pos h (Pv.as (Ev.now _) (if_pos h).symm)
  ·exact Pv.neg h (Pv.as (Ev.now _) (if_neg h).symm)
 | succ n ih =>
  intro i ids ps hi h1 h2 hv;have hlt : i < ws.length := by omega
  have hlt2 : i < (ws.map ba).length := by rw [List.length_map]; exact hlt
  refine Ev.step (fun k => by simp only [selfstabref02_Parse.l0]; rfl) (Pv.pos (by omega) (Pv.pos (by omega) ?_))
  rw [rdB hlt2, List.getElem_map, w1 (by omega), List.drop_eq_getElem_cons hlt]
  have hs := hw _ (List.getElem_mem hlt)
  have ht := rline (ba ws[i]) (by rw [ba_size]; exact hs)
  rw [dl_ba] at ht
  refine Ev.bind ht ?_
  unfold parseR
  by_cases h : (lineR ws[i]).2.2 = true
  ·rw [if_pos h]
   refine Pv.pos h (Pv.some_bind (Pv.pos (by simp; omega) (Pv.some_bind (Pv.pos (by simp; omega) ?_))))
   exact ih (i + 1) _ _ (by omega) (by rw [List.length_append]; simp; omega) (by rw [List.length_append]; simp; omega) (hv.snoc hs)
  ·rw [if_neg h]; exact Pv.neg h (Ev.now _)
def linesR (l : List UInt8) : List (List UInt8) := if l.getLast? = some 10 then sp 10 l.dropLast else sp 10 l
theorem nil_or_snoc {α : Type} (l : List α) : l = [] ∨ ∃ l' x, l = l' ++ [x] := by
 cases h : l.getLast? with
 | none => exact Or.inl (List.getLast?_eq_none_iff.1 h)
 | some x => obtain ⟨ys, e⟩ := List.getLast?_eq_some_iff.1 h; exact Or.inr ⟨ys, x, e⟩
theorem linesR_snoc (l : List UInt8) : linesR (l ++ [10]) = sp 10 l := by unfold linesR; rw [if_pos (by simp), List.dropLast_concat]
theorem linesR_other {l : List UInt8} (h : l.getLast? ≠ some 10) : linesR l = sp 10 l := by unfold linesR; rw [if_neg h]
theorem trim_eq (a : ByteArray) (h : a.size ≤ 1000000) : strings_TrimSuffix.f a ⟨#[10]⟩ = some (ba (if (dl a).getLast? = some 10 then (dl a).dropLast else dl a)) := by
 have hsz : (ByteArray.mk #[10]).size = 1 := rfl
 unfold strings_TrimSuffix.f stringslite_TrimSuffix.f stringslite_HasSuffix.f
 rw [hsz]
 rcases nil_or_snoc (dl a) with h0 | ⟨l, x, h0⟩
 ·have hl : a.size = 0 := by rw [← dl_len, h0]; rfl
  rw [if_neg (by omega), h0]
  show some a = _
  congr 1
  exact ba_eq (by rw [h0]; rfl)
 ·have hl : a.size = l.length + 1 := by rw [← dl_len, h0]; simp
  have e1 : wrap64 ((a.size : Int) - ((1 : Nat) : Int)) = (l.length : Int) := by rw [Pv.w64 (by omega) (by omega)]; omega
  rw [if_pos (by omega), e1, if_pos (by omega), if_pos (by omega), if_pos (by omega), if_pos (by omega), Int.toNat_natCast]
  have e2 : (a.extract l.length a.size).toList = [x] := by rw [toList_dl, dl_extract, h0, List.drop_left, hl]; simp
  rw [e2]
  show ((if ([x] == (ByteArray.mk #[10]).toList) = true then some (a.extract 0 l.length) else some a).bind fun t => some t) = _
  have e3 : (ByteArray.mk #[10]).toList = [10] := by rw [toList_dl]
  rw [e3]
  by_cases hx : x = 10
  ·rw [if_pos (by rw [hx]; rfl), if_pos (by rw [h0, hx]; simp)]
   show some _ = some _
   congr 1
   exact ba_eq (by rw [dl_ba, dl_extract, h0, List.dropLast_concat]; simp)
  ·rw [if_neg (by simpa using hx), if_neg (by rw [h0]; simpa using hx)]
   show some _ = some _
   congr 1
theorem linesR_len (l : List UInt8) : (linesR l).length ≤ l.length + 1 ∧ ∀ s ∈ linesR l, s.length ≤ l.length := by
 unfold linesR
 split
 ·have := sp_len 10 l.dropLast
  rw [List.length_dropLast] at this
  refine ⟨by omega, fun s hs => ?_⟩
  have := sp_mem_len 10 l.dropLast s hs
  rw [List.length_dropLast] at this
  omega
 ·exact ⟨sp_len 10 l, sp_mem_len 10 l⟩
theorem lineR_nil : lineR [] = (0, [], false) := rfl
theorem parseR_empty : parseR [[]] 0 [] [] = ([], [], 1, 4) := by unfold parseR; rw [lineR_nil]; rfl
theorem tparse (a : ByteArray) (h : a.size ≤ 16384) : Ev (fun k => graphtext_Parse.f k a) (parseR (linesR (dl a)) 0 [] []) := by
 obtain ⟨hl1, hl2⟩ := linesR_len (dl a)
 rw [dl_len] at hl1 hl2
 refine Pv.neg (by omega) (Pv.const_bind (trim_eq a (by omega)) (Pv.const_bind (tsplit _ 10 (by rw [ba_size]; have := dl_len a; split <;> (try rw [List.length_dropLast]) <;> omega)) ?_))
 have e : spB 10 (ba (if (dl a).getLast? = some 10 then (dl a).dropLast else dl a)) = (linesR (dl a)).map ba := by
  unfold spB
  rw [ba_data]
  unfold linesR
  congr 1
  split <;> rfl
 rw [e]
 exact tparse_l0 (linesR (dl a)) (fun s hs => by have := hl2 s hs; omega) (by omega) (linesR (dl a)).length 0 [] [] (by omega) (by simp) (by simp) Inv.nil
theorem rlines (a : ByteArray) (h : a.size ≤ 16384) : Ev (fun k => selfstabref02_Lines.f k a) (if dl a = [] then [] else (linesR (dl a)).map ba) := by
 refine Ev.bind (rsplit a 10 (by omega)) ?_
 have hlen := sp_len 10 (dl a)
 rw [dl_len] at hlen
 have hpos : 0 < (sp 10 (dl a)).length := List.length_pos_iff.2 (sp_ne 10 _)
 have e0 : (spB 10 a).length = (sp 10 (dl a)).length := by unfold spB; rw [List.length_map]
 have e1 : wrap64 (((spB 10 a).length : Int) - 1) = (((sp 10 (dl a)).length - 1 : Nat) : Int) := by rw [e0, Pv.w64 (by omega) (by omega)]; omega
 rw [e1]
 refine Pv.pos (by omega) (Pv.pos (by omega) ?_)
 have e2 : rdOf ByteArray.empty (spB 10 a) (((sp 10 (dl a)).length - 1 : Nat) : Int) = ba ((sp 10 (dl a)).getLast (sp_ne 10 _)) := by
  rw [rdB (by omega)]
  unfold spB
  rw [List.getElem_map, List.getLast_eq_getElem]
 rw [e2]
 have e3 : (ba ((sp 10 (dl a)).getLast (sp_ne 10 _))).toList = (sp 10 (dl a)).getLast (sp_ne 10 _) := by rw [toList_dl, dl_ba]
 rw [e3, Int.toNat_natCast]
 by_cases hc : (sp 10 (dl a)).getLast (sp_ne 10 _) = []
 ·refine Pv.pos hc (Pv.pos (by omega) (Pv.as (Ev.now _) ?_))
  unfold spB
  show ((sp 10 (dl a)).map ba).take _ = _
  rcases (sp_last 10 (dl a)).1 hc with h0 | h0
  ·rw [if_pos h0, h0]; rfl
  ·obtain ⟨l, h1⟩ := List.getLast?_eq_some_iff.1 h0
   rw [if_neg (by rw [h1]; simp), h1, linesR_snoc, sp_snoc, List.length_append, List.map_append]
   simp
 ·refine Pv.neg hc (Pv.as (Ev.now _) ?_)
  have h1 : dl a ≠ [] := fun e => hc ((sp_last 10 (dl a)).2 (Or.inl e))
  have h2 : (dl a).getLast? ≠ some 10 := fun e => hc ((sp_last 10 (dl a)).2 (Or.inr e))
  rw [if_neg h1, linesR_other h2]
  rfl
theorem linesR_ne (l : List UInt8) : linesR l ≠ [] := by unfold linesR; split <;> exact sp_ne 10 _
theorem rparse (a : ByteArray) (h : a.size ≤ 16384) : Ev (fun k => selfstabref02_Parse.f k a) (parseR (linesR (dl a)) 0 [] []) := by
 obtain ⟨hl1, hl2⟩ := linesR_len (dl a)
 rw [dl_len] at hl1 hl2
 refine Pv.neg (by omega) (Ev.bind (rlines a h) ?_)
 by_cases h0 : dl a = []
 ·rw [if_pos h0]
  refine Pv.pos rfl (Pv.as (Ev.now _) ?_)
  rw [h0]
  exact parseR_empty.symm
 ·rw [if_neg h0]
  have hp : 0 < (linesR (dl a)).length := List.length_pos_iff.2 (linesR_ne _)
  refine Pv.neg (by rw [List.length_map]; omega) ?_
  exact rparse_l0 (linesR (dl a)) (fun s hs => by have := hl2 s hs; omega) (by omega) (linesR (dl a)).length 0 [] [] (by omega) (by simp) (by simp) Inv.nil
theorem parseR_len : ∀ (ws : List (List UInt8)) (i : Nat) (ids : List Int) (ps : List Row), (∀ s ∈ ws, s.length ≤ 100000) → Inv ids ps → ids.length = ps.length → ids.length + ws.length ≤ 1000000 →
  (parseR ws i ids ps).1.length = (parseR ws i ids ps).2.1.length ∧ (parseR ws i ids ps).1.length ≤ 1000000 ∧ Inv (parseR ws i ids ps).1 (parseR ws i ids ps).2.1
 | [], i, ids, ps, hw, hv, he, hl => by
  unfold parseR finR
  split
  ·exact ⟨he, by simp at hl; omega, hv⟩
  ·exact ⟨rfl, by simp, Inv.nil⟩
 | s :: r, i, ids, ps, hw, hv, he, hl => by
  unfold parseR
  split
  ·refine parseR_len r (i + 1) _ _ (fun x hx => hw x (by simp [hx])) (hv.snoc (hw s (by simp))) (by simp [he]) (by simp at hl ⊢; omega)
  ·exact ⟨rfl, by simp, Inv.nil⟩
section
end
end Go.Proofs.YtinfejpkjddbiaaDoor.Fn02
