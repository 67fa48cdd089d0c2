/- Part of the proof of the law GraphtextWritesBack: Fn02f. -/
import Derived.Test.YtinfejpkjddbiaaDoorGraphtextWritesBackFn02e
namespace Go.Proofs.YtinfejpkjddbiaaDoor.Fn02
open Go.RowKit Go.Proofs.YtinfejpkjddbiaaDoor.P Go.Proofs.YtinfejpkjddbiaaDoorW.PrintWords Go.Proofs.YtinfejpkjddbiaaDoorW.PrintLast Go.Proofs.YtinfejpkjddbiaaDoorW.PrintMore Go.Proofs.YtinfejpkjddbiaaDoor.Fn01 Go.Proofs.YtinfejpkjddbiaaDoor.Math02
set_option linter.unusedVariables false
set_option linter.unusedSimpArgs false
def joinB (c : UInt8) : List (List UInt8) → List UInt8
 | [] => []
 | [p] => p
 | p :: q :: r => p ++ c :: joinB c (q :: r)
theorem join_sp (c : UInt8) : ∀ l : List UInt8, joinB c (sp c l) = l
 | [] => rfl
 | x :: xs => by
  have ih := join_sp c xs
  obtain ⟨h1, t, hs⟩ := sp_cons c xs
  by_cases h : x = c
  ·rw [sp_eq h]
   rw [hs] at ih ⊢
   show [] ++ c :: joinB c (h1 :: t) = _
   rw [ih, h]; rfl
  ·rw [sp_other h hs]
   rw [hs] at ih
   cases t with
   | nil => exact congrArg (x :: ·) ih
   | cons q r => exact congrArg (x :: ·) ih
theorem dig {c : UInt8} {cs : List UInt8} {n m : Int} (h : numL (c :: cs) n = (m, true)) : ∃ d : Nat, d < 10 ∧ c = dg d ∧ numL cs (10 * n + (d : Int)) = (m, true) := by
 unfold numL at h
 split at h; · cases h
 split at h; · cases h
 rename_i h1 h2
 refine ⟨c.toNat - 48, by omega, UInt8.toNat_inj.mp ?_, ?_⟩
 ·unfold dg
  have := c.toNat_lt
  rw [UInt8.toNat_ofNat']
  omega
 ·have e : (((c.toNat - 48 : Nat) : Int)) = (c.toNat : Int) - 48 := by omega
  rw [e]; exact h
theorem numL_ge : ∀ (l : List UInt8) (n m : Int), 0 ≤ n → numL l n = (m, true) → n * ((10 ^ l.length : Nat) : Int) ≤ m
 | [], n, m, h0, h => by
  simp only [numL, Prod.mk.injEq, and_true] at h
  subst h;simp
 | c :: cs, n, m, h0, h => by
  obtain ⟨d, hd, _, h2⟩ := dig h
  have ih := numL_ge cs (10 * n + (d : Int)) m (by omega) h2
  have hp : (0 : Int) ≤ ((10 ^ cs.length : Nat) : Int) := Int.natCast_nonneg _
  have h3 : (10 * n) * ((10 ^ cs.length : Nat) : Int) ≤ (10 * n + (d : Int)) * ((10 ^ cs.length : Nat) : Int) := Int.mul_le_mul_of_nonneg_right (by omega) hp
  have h4 : n * ((10 ^ (c :: cs).length : Nat) : Int) = (10 * n) * ((10 ^ cs.length : Nat) : Int) := by
   rw [List.length_cons, Nat.pow_succ, Int.natCast_mul, Int.mul_comm 10 n, Int.mul_assoc, Int.mul_comm ((10 ^ cs.length : Nat) : Int)]
   rfl
  omega
theorem dec1 : ∀ d < 10, dec d = [dg d] := by decide +kernel
theorem dec2 : ∀ d < 10, ∀ e < 10, d ≠ 0 → dec (10 * d + e) = [dg d, dg e] := by decide +kernel
theorem dec3 : ∀ d < 10, ∀ e < 10, ∀ f < 10, d ≠ 0 → dec (10 * (10 * d + e) + f) = [dg d, dg e, dg f] := by decide +kernel
theorem dg0 : dg 0 = 48 := by decide
theorem num_dec {a : List UInt8} {x : Int} (h : numR a = (x, true)) (hs : sm x) : a = dec x.toNat := by
 unfold numR at h
 split at h; · cases h
 split at h; · cases h
 split at h; · cases h
 rename_i h1 h2 h3
 clear h2;have hs2 := hs.2
 have hs1 := hs.1
 cases a with
 | nil => exact absurd (by simp) h1
 | cons c r =>
 obtain ⟨d, hd, rfl, g1⟩ := dig h
 clear h h1;cases r with
 | nil =>
  simp only [numL, Prod.mk.injEq, and_true] at g1
  have e : x.toNat = d := by omega
  rw [e, dec1 d hd]
 | cons c2 r =>
 have hz : d ≠ 0 := fun e => h3 ⟨by rw [e]; exact dg0, by simp⟩
 clear h3;have hge := numL_ge _ _ _ (by omega) g1
 obtain ⟨d2, hd2, rfl, g2⟩ := dig g1
 cases r with
 | nil =>
  simp only [numL, Prod.mk.injEq, and_true] at g2
  have e : x.toNat = 10 * d + d2 := by omega
  rw [e, dec2 d hd d2 hd2 hz]
 | cons c3 r =>
 obtain ⟨d3, hd3, rfl, g3⟩ := dig g2
 cases r with
 | nil =>
  simp only [numL, Prod.mk.injEq, and_true] at g3
  have e : x.toNat = 10 * (10 * d + d2) + d3 := by omega
  rw [e, dec3 d hd d2 hd2 d3 hd3 hz]
 | cons c4 r =>
  have hp : 10 ^ 3 ≤ 10 ^ (dg d2 :: dg d3 :: c4 :: r).length := Nat.pow_le_pow_right (by omega) (by rw [List.length_cons, List.length_cons, List.length_cons]; omega)
  have h5 : (1 : Int) * ((10 ^ (dg d2 :: dg d3 :: c4 :: r).length : Nat) : Int) ≤ (10 * 0 + (d : Int)) * ((10 ^ (dg d2 :: dg d3 :: c4 :: r).length : Nat) : Int) := Int.mul_le_mul_of_nonneg_right (by omega) (Int.natCast_nonneg _)
  have h6 : (1000 : Int) ≤ ((10 ^ (dg d2 :: dg d3 :: c4 :: r).length : Nat) : Int) := Int.le_trans (by decide) (Int.ofNat_le.2 hp)
  omega
theorem linkR_inv {s : List UInt8} {l : S41} (h : linkR s = some l) (hl : smL l) : s = lkb l := by
 have hj := join_sp 47 s
 unfold linkR at h
 split at h
 ·rename_i p q hs
  rw [hs] at hj
  split at h
  ·rename_i h1
   split at h
   ·rename_i h2
    cases h;have e1 := num_dec (a := p) (Prod.ext rfl h1) hl.1
    have e2 := num_dec (a := q) (Prod.ext rfl h2) hl.2
    rw [← hj]
    show p ++ 47 :: q = dec _ ++ 47 :: dec _
    rw [← e1, ← e2]
   ·cases h
  ·cases h
 ·cases h
theorem linksR_inv : ∀ (r : List (List UInt8)) (out ps : Row), linksR r out = some ps → ∃ rs, ps = out ++ rs ∧ ((∀ l ∈ rs, smL l) → r = rs.map lkb)
 | [], out, ps, h => by
  simp only [linksR, Option.some.injEq] at h
  exact ⟨[], by rw [List.append_nil, h], fun _ => rfl⟩
 | s :: r, out, ps, h => by
  unfold linksR at h
  split at h
  ·rename_i l hk
   obtain ⟨rs, e, hr⟩ := linksR_inv r _ ps h
   refine ⟨l :: rs, by rw [e, List.append_assoc]; rfl, fun hs => ?_⟩
   rw [List.map_cons, ← hr (fun x hx => hs x (by simp [hx])), linkR_inv hk (hs l (by simp))]
  ·cases h
theorem join_lks : ∀ (rs : Row) (p : List UInt8), joinB 32 (p :: rs.map lkb) = p ++ lksB rs
 | [], p => by show p = p ++ []; rw [List.append_nil]
 | l :: rs, p => by
  show p ++ 32 :: joinB 32 (lkb l :: rs.map lkb) = p ++ 32 :: (lkb l ++ lksB rs)
  rw [join_lks rs (lkb l)]
theorem lineR_inv {s : List UInt8} (h : (lineR s).2.2 = true) (hi : sm (lineR s).1) (hr : ∀ l ∈ (lineR s).2.1, smL l) : s = nodeB (lineR s).1 (lineR s).2.1 := by
 have hj := join_sp 32 s
 revert h hi hr
 unfold lineR
 split
 ·rename_i w x r hs
  rw [hs] at hj
  split
  ·rename_i hw
   split
   ·rename_i hx
    split
    ·rename_i ps hl
     intro _ hi hr;obtain ⟨rs, e, hrs⟩ := linksR_inv r [] ps hl
     rw [List.nil_append] at e
     subst e;have e2 := num_dec (a := x) (Prod.ext rfl hx) hi
     have e3 := hrs hr
     rw [← hj, hw, e3]
     show [110, 111, 100, 101] ++ 32 :: joinB 32 (x :: List.map lkb ps) = _
     rw [join_lks]
     show _ = [110, 111, 100, 101] ++ 32 :: (dec _ ++ lksB ps)
     rw [← e2]
    ·intro h; cases h
   ·intro h; cases h
  ·intro h; cases h
 ·intro h; cases h
theorem parseR_inv : ∀ (ws : List (List UInt8)) (i : Nat) (ia : List Int) (pa : List Row), (parseR ws i ia pa).2.2.2 = 0 →
  ∃ ids ps, ids.length = ps.length ∧ parseR ws i ia pa = (ia ++ ids, pa ++ ps, 0, 0) ∧ graph_Valid.val (ia ++ ids) (pa ++ ps) = true ∧ ((∀ x ∈ ids, sm x) → (∀ r ∈ ps, ∀ l ∈ r, smL l) → ws = nodesB ids ps)
 | [], i, ia, pa, h => by
  unfold parseR finR at h ⊢
  split at h
  ·rename_i hv
   exact ⟨[], [], rfl, by rw [if_pos hv, List.append_nil, List.append_nil], by rw [List.append_nil, List.append_nil]; exact hv, fun _ _ => rfl⟩
  ·cases h
 | s :: r, i, ia, pa, h => by
  unfold parseR at h ⊢
  split at h
  ·rename_i hs
   obtain ⟨ids, ps, e1, e2, e3, e4⟩ := parseR_inv r (i + 1) _ _ h
   rw [List.append_assoc, List.append_assoc] at e2 e3
   refine ⟨(lineR s).1 :: ids, (lineR s).2.1 :: ps, by simp [e1], by rw [if_pos hs]; exact e2, e3, fun h1 h2 => ?_⟩
   show s :: r = nodeB (lineR s).1 (lineR s).2.1 :: nodesB ids ps
   rw [← e4 (fun x hx => h1 x (by simp [hx])) (fun x hx => h2 x (by simp [hx])), ← lineR_inv hs (h1 _ (by simp)) (h2 _ (by simp))]
  ·cases h
theorem text_join (c : List UInt8) : ∀ (ws : List (List UInt8)), textB (c :: ws) = joinB 10 (c :: ws) ++ [10] := by
 intro ws;induction ws generalizing c with
 | nil => rfl
 | cons d ws ih =>
  show c ++ 10 :: textB (d :: ws) = (c ++ 10 :: joinB 10 (d :: ws)) ++ [10]
  rw [ih d]
  simp
theorem text_lines (l : List UInt8) : textB (linesR l) = l ∨ textB (linesR l) = l ++ [10] := by
 have one : ∀ m : List UInt8, textB (sp 10 m) = m ++ [10] := fun m => by
  have hj := join_sp 10 m
  obtain ⟨h, t, hs⟩ := sp_cons 10 m
  rw [hs] at hj ⊢
  rw [text_join, hj]
 by_cases hc : l.getLast? = some 10
 ·obtain ⟨m, rfl⟩ := List.getLast?_eq_some_iff.1 hc
  left
  rw [linesR_snoc, one]
 ·right
  rw [linesR_other hc, one]
end Go.Proofs.YtinfejpkjddbiaaDoor.Fn02
