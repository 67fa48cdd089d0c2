/- What the lexer's numbers and signs and the reference's answer. -/
import Derived.Test.YtanickojbgceaaaFn04
namespace Go.Proofs.Ytanickojbgceaaa.Fn04
open Go.RowKit Go.Proofs.Ytanickojbgceaaa.P Go.Proofs.YtanickojbgceaaaW.PrintWords Go.Proofs.YtanickojbgceaaaW.PrintLast Go.Proofs.YtanickojbgceaaaW.PrintMore Go.Proofs.Ytanickojbgceaaa.Math04 Go.Proofs.Ytanickojbgceaaa.Bs
set_option linter.unusedVariables false
set_option linter.unusedSimpArgs false
theorem numV_app (w : List Int) (c n : Int) : ∀ w : List Int, ∀ n : Int, 0 ≤ n → (∀ c ∈ w, digitB c = true) → n ≤ w.foldl (fun v c => 10 * v + (c - 48)) n
  | [], n, _, _ => Int.le_refl _
  | c :: w, n, h, hd => by
    have hc := hd c (List.mem_cons_self)
    simp only [digitB, Bool.and_eq_true, decide_eq_true_eq] at hc
    rw [List.foldl_cons]
    have := numV_app w c n w (10 * n + (c - 48)) (by omega) (fun c h => hd c (List.mem_cons_of_mem _ h))
    omega
theorem fold_ge (w : List Int) (n : Int) (h : 0 ≤ n) (hd : ∀ c ∈ w, digitB c = true) : n ≤ w.foldl (fun v c => 10 * v + (c - 48)) n := numV_app w n n w n h hd
theorem fold_pow : ∀ (w : List Int) (n : Int), 1 ≤ n → (∀ c ∈ w, digitB c = true) → ((10 ^ w.length : Nat) : Int) ≤ w.foldl (fun v c => 10 * v + (c - 48)) n
  | [], n, h, _ => by simpa using h
  | c :: w, n, h, hd => by
    have hc := hd c (List.mem_cons_self)
    simp only [digitB, Bool.and_eq_true, decide_eq_true_eq] at hc
    have key : ∀ (w : List Int) (n : Int), 1 ≤ n → (∀ c ∈ w, digitB c = true) → ((10 ^ w.length : Nat) : Int) * n ≤ w.foldl (fun v c => 10 * v + (c - 48)) n := by
      intro w
      induction w with
      | nil => intro n h _; simp
      | cons c w ih =>
        intro n h hd
        have hc := hd c (List.mem_cons_self)
        simp only [digitB, Bool.and_eq_true, decide_eq_true_eq] at hc
        rw [List.foldl_cons]
        have h1 := ih (10 * n + (c - 48)) (by omega) (fun c h => hd c (List.mem_cons_of_mem _ h))
        have h2 : ((10 ^ w.length : Nat) : Int) * (10 * n) ≤ ((10 ^ w.length : Nat) : Int) * (10 * n + (c - 48)) := Int.mul_le_mul_of_nonneg_left (by omega) (Int.natCast_nonneg _)
        have h3 : ((10 ^ (c :: w).length : Nat) : Int) * n = ((10 ^ w.length : Nat) : Int) * (10 * n) := by
          rw [List.length_cons, Nat.pow_succ, Int.natCast_mul, Int.mul_assoc]; rfl
        omega
    have := key (c :: w) n h hd
    have h0 : (0 : Int) ≤ ((10 ^ (c :: w).length : Nat) : Int) := Int.natCast_nonneg _
    have h2 : ((10 ^ (c :: w).length : Nat) : Int) * 1 ≤ ((10 ^ (c :: w).length : Nat) : Int) * n := Int.mul_le_mul_of_nonneg_left h h0
    omega
theorem number_l : ∀ (l : List UInt8) (n : Int), 0 ≤ n → (∀ c ∈ l.map (fun b => (b.toNat : Int)), digitB c = true) →
    lexer_number.l l n = if n ≤ 1073741824 ∨ l ≠ [] then (if (l.map (fun b => (b.toNat : Int))).foldl (fun v c => 10 * v + (c - 48)) n ≤ 1073741824 then some ((l.map (fun b => (b.toNat : Int))).foldl (fun v c => 10 * v + (c - 48)) n, 0) else some (0, 2)) else some (n, 0)
  | [], n, h, hd => by
    unfold lexer_number.l
    by_cases h1 : n ≤ 1073741824
    · rw [if_pos (Or.inl h1)]; exact (if_pos h1).symm
    · rw [if_neg (by simp [h1])]
  | c :: l, n, h, hd => by
    have hc := hd (c.toNat : Int) (by simp)
    have hr : ∀ c ∈ l.map (fun b => (b.toNat : Int)), digitB c = true := fun x hx => hd x (by rw [List.map_cons]; exact List.mem_cons_of_mem _ hx)
    simp only [digitB, Bool.and_eq_true, decide_eq_true_eq] at hc
    unfold lexer_number.l
    rw [if_pos (Or.inr (by simp)), List.map_cons, List.foldl_cons]
    have e : ((c.toNat : Int) - 48) % 256 = (c.toNat : Int) - 48 := by omega
    rw [e]
    have hg := fold_ge (l.map (fun b => (b.toNat : Int))) (10 * n + ((c.toNat : Int) - 48)) (by omega) hr
    by_cases h1 : 10 * n + ((c.toNat : Int) - 48) > 1073741824
    · rw [if_pos h1, if_neg (by omega)]
    · rw [if_neg h1, number_l l _ (by omega) hr, if_pos (Or.inl (by omega))]
theorem mapb (s : ByteArray) : s.data.toList.map (fun b => (b.toNat : Int)) = bs s := rfl
theorem lead {w : List Int} {c : Int} {cs : List Int} (hw : w = c :: cs) (hd : ∀ c ∈ w, digitB c = true) (hc : c ≠ 48) (hl : 10 < w.length) : ¬ numV w ≤ 1073741824 := by
  subst hw
  have h1 := hd c (List.mem_cons_self)
  simp only [digitB, Bool.and_eq_true, decide_eq_true_eq] at h1
  unfold numV
  rw [List.foldl_cons]
  have h2 := fold_pow cs (10 * 0 + (c - 48)) (by omega) (fun x hx => hd x (List.mem_cons_of_mem _ hx))
  rw [List.length_cons] at hl
  have h3 : (10 : Nat) ^ 10 ≤ 10 ^ cs.length := Nat.pow_le_pow_right (by omega) (by omega)
  have h4 : ((10 ^ 10 : Nat) : Int) ≤ ((10 ^ cs.length : Nat) : Int) := Int.ofNat_le.mpr h3
  have h5 : ((10 ^ 10 : Nat) : Int) = 10000000000 := by decide
  omega
theorem number_eq {s : ByteArray} (hs : s.size ≤ 4294967296) (h0 : bs s ≠ []) (hd : ∀ c ∈ bs s, digitB c = true) : lexer_number.f s = some (if numOK (bs s) then (numV (bs s), 0) else (0, 2)) := by
  have hp : 0 < s.size := by rw [← bs_len]; exact List.length_pos_iff.mpr h0
  unfold lexer_number.f
  rw [if_pos (by omega), if_pos hs]
  obtain ⟨c, cs, hw⟩ := List.exists_cons_of_ne_nil h0
  have hb : bt s 0 = c := byte_bt (by rw [hw]; rfl)
  have hl : (s.size : Int) = (bs s).length := by rw [bs_len]
  have hu : s.data.toList ≠ [] := by intro h; exact h0 (by unfold bs; rw [h]; rfl)
  have hn : lexer_number.l s.data.toList 0 = if numV (bs s) ≤ 1073741824 then some (numV (bs s), 0) else some (0, 2) := by
    rw [number_l _ 0 (by omega) hd, if_pos (Or.inl (by omega))]; rfl
  rw [hb, hn, hl]
  unfold numOK
  by_cases h1 : c = 48
  · rw [if_pos h1]
    by_cases h2 : ((bs s).length : Int) > 1
    · have h3 : decide (1 < (bs s).length) = true := decide_eq_true (by omega)
      have h4 : ((bs s).head? == some 48) = true := by rw [hw, h1]; rfl
      rw [if_pos h2, if_neg (by rw [h3, h4]; simp)]
    · rw [if_neg h2]
      have h3 : ¬ 1 < (bs s).length := by omega
      have h4 : (bs s).length ≤ 10 := by omega
      by_cases h5 : numV (bs s) ≤ 1073741824
      · simp [h3, h4, h5]
      · simp [h3, h4, h5]
  · rw [if_neg h1]
    have hh : ((bs s).head? == some 48) = false := by rw [hw]; simpa using h1
    rw [hh]
    by_cases h4 : (bs s).length ≤ 10
    · by_cases h5 : numV (bs s) ≤ 1073741824
      · simp [h4, h5]
      · simp [h4, h5]
    · have h5 := lead hw hd h1 (by omega)
      rw [hw] at h4 ⊢
      rw [hw] at h5
      simp [h4, h5]
/-- The reference's loop over digits. -/
theorem rnumber_l {s : ByteArray} (hs : s.size ≤ 10) : ∀ (l : List Int) (n : Int) (m : Nat), l <:+ bs s → 0 ≤ n → n < ((10 ^ m : Nat) : Int) → m + l.length ≤ 10 → (∀ c ∈ l, digitB c = true) →
    Ev (fun k => selfstabref04_number.l0 k s n (pos s l)) (l.foldl (fun v c => 10 * v + (c - 48)) n, decide (l.foldl (fun v c => 10 * v + (c - 48)) n ≤ 1073741824))
  | [], n, m, h, h0, h1, h2, hd => by
    refine Ev.step (fun k => by simp only [selfstabref04_number.l0]; rfl) ?_
    exact Pv.neg (by rw [pos_nil]; omega) (Ev.now _)
  | c :: l, n, m, h, h0, h1, h2, hd => by
    have hc := hd c (List.mem_cons_self)
    simp only [digitB, Bool.and_eq_true, decide_eq_true_eq] at hc
    refine Ev.step (fun k => by simp only [selfstabref04_number.l0]; rfl) ?_
    refine Pv.pos (pos_lt s c l) (Pv.pos (pos_ge h) ?_)
    rw [bt_pos h, w1 (by unfold small; omega) h]
    rw [List.length_cons] at h2
    have h3 : (10 : Nat) ^ m ≤ 10 ^ 10 := Nat.pow_le_pow_right (by omega) (by omega)
    have h4 : ((10 ^ m : Nat) : Int) ≤ ((10 ^ 10 : Nat) : Int) := Int.ofNat_le.mpr h3
    have h5 : ((10 ^ 10 : Nat) : Int) = 10000000000 := by decide
    have e1 : wrap64 (10 * n) = 10 * n := Pv.w64 (by omega) (by omega)
    have e2 : (c - 48) % 256 = c - 48 := by omega
    have e3 : wrap64 (10 * n + (c - 48)) = 10 * n + (c - 48) := Pv.w64 (by omega) (by omega)
    rw [e1, e2, e3, List.foldl_cons]
    refine rnumber_l hs l _ (m + 1) (tail h) (by omega) ?_ (by omega) (fun x hx => hd x (List.mem_cons_of_mem _ hx))
    rw [Nat.pow_succ, Int.natCast_mul]
    omega
theorem rnumber_eq {s : ByteArray} (h0 : bs s ≠ []) (hd : ∀ c ∈ bs s, digitB c = true) : ∃ v, Ev (fun k => selfstabref04_number.f k s) (v, numOK (bs s)) ∧ (numOK (bs s) = true → v = numV (bs s)) := by
  have hp : 0 < s.size := by rw [← bs_len]; exact List.length_pos_iff.mpr h0
  obtain ⟨c, cs, hw⟩ := List.exists_cons_of_ne_nil h0
  have hb : bt s 0 = c := byte_bt (by rw [hw]; rfl)
  have hl : s.size = (bs s).length := by rw [bs_len]
  have bad : numOK (bs s) = false → ∃ v, Ev (fun k => selfstabref04_number.j0 k s true) (v, numOK (bs s)) ∧ (numOK (bs s) = true → v = numV (bs s)) := by
    intro h
    refine ⟨0, ?_, fun h2 => by rw [h] at h2; cases h2⟩
    rw [h]
    refine Ev.step (fun k => by simp only [selfstabref04_number.j0]; rfl) ?_
    exact Pv.pos (by trivial) (Ev.now _)
  have long : ¬ (1 < s.size ∧ c = 48) → ∃ v, Ev (fun k => selfstabref04_number.j0 k s (decide ((s.size : Int) > 10))) (v, numOK (bs s)) ∧ (numOK (bs s) = true → v = numV (bs s)) := by
    intro hn
    by_cases h10 : s.size > 10
    · rw [decide_eq_true (show (s.size : Int) > 10 by omega)]
      refine bad ?_
      unfold numOK
      rw [decide_eq_false (show ¬ (bs s).length ≤ 10 by omega)]; simp
    · refine ⟨numV (bs s), ?_, fun _ => rfl⟩
      rw [decide_eq_false (show ¬ (s.size : Int) > 10 by omega)]
      refine Ev.step (fun k => by simp only [selfstabref04_number.j0]; rfl) ?_
      refine Pv.neg (by decide) ?_
      have z := rnumber_l (by omega) (bs s) 0 0 (List.suffix_refl _) (by omega) (by decide) (by omega) hd
      rw [pos_all] at z
      refine Pv.as z ?_
      have e : numOK (bs s) = decide (numV (bs s) ≤ 1073741824) := by
        unfold numOK
        rw [decide_eq_true (show (bs s).length ≤ 10 by omega)]
        have : (decide (1 < (bs s).length) && (bs s).head? == some 48) = false := by
          rw [Bool.and_eq_false_iff]
          by_cases h1 : 1 < s.size
          · right; rw [hw]
            have : c ≠ 48 := fun e => hn ⟨h1, e⟩
            simpa using this
          · left; exact decide_eq_false (by omega)
        rw [this]; simp
      rw [e]; rfl
  unfold selfstabref04_number.f
  by_cases h1 : (s.size : Int) > 1
  · by_cases h2 : c = 48
    · obtain ⟨v, z1, z2⟩ := bad (by
        unfold numOK
        rw [decide_eq_true (show 1 < (bs s).length by omega), hw, h2]; rfl)
      refine ⟨v, Pv.pos h1 (Pv.pos (by omega) ?_), z2⟩
      rw [hb]
      exact Pv.pos h2 z1
    · obtain ⟨v, z1, z2⟩ := long (fun h => h2 h.2)
      refine ⟨v, Pv.pos h1 (Pv.pos (by omega) ?_), z2⟩
      rw [hb]
      exact Pv.neg h2 z1
  · obtain ⟨v, z1, z2⟩ := long (fun h => h1 (by omega))
    exact ⟨v, Pv.neg h1 z1, z2⟩
/-! signs -/
theorem idx_cons (b : UInt8) (l sub : List UInt8) : decide (0 ≤ Lib.index (b :: l) sub) = (sub.isPrefixOf (b :: l) || decide (0 ≤ Lib.index l sub)) := by
  conv => lhs; unfold Lib.index
  by_cases h : sub.isPrefixOf (b :: l) = true
  · rw [if_pos h, h]; rfl
  · rw [if_neg h]
    have h2 : sub.isPrefixOf (b :: l) = false := Bool.eq_false_iff.mpr h
    rw [h2, Bool.false_or]
    have := Lib.index_ge l sub
    by_cases h3 : Lib.index l sub = -1
    · rw [h3]; rfl
    · rw [if_neg (by simpa using h3)]
      exact decide_eq_decide.mpr (by omega)
theorem idx_nil (c : UInt8) (sub : List UInt8) : decide (0 ≤ Lib.index [] (c :: sub)) = false := rfl
theorem u8 (x : UInt8) (n : UInt8) : (x == n) = ((x.toNat : Int) == (n.toNat : Int)) := by
  rw [Bool.eq_iff_iff, beq_iff_eq, beq_iff_eq]
  constructor
  · intro h; rw [h]
  · intro h; exact UInt8.toNat_inj.mp (Int.ofNat.inj h)
theorem two_eq (x y : UInt8) (hx : x ≠ 32) (hy : y ≠ 32) : Lib.contains [32, 46, 46, 32, 45, 62, 32, 58, 61, 32, 38, 38, 32, 124, 124, 32, 61, 61, 32, 33, 61, 32, 60, 61, 32, 62, 61, 32] [32, x, y, 32] = long2 (x.toNat : Int) (y.toNat : Int) := by
  have hx' : (x == 32) = false := by simpa using hx
  have hy' : (y == 32) = false := by simpa using hy
  unfold Lib.contains long2
  simp only [idx_cons, idx_nil, List.isPrefixOf, List.contains_cons, List.contains_nil]
  simp [hx', hy', u8]
  rfl
theorem one_eq (x : UInt8) : decide (0 ≤ Lib.indexByte [59, 58, 44, 40, 41, 46, 63, 60, 62, 43, 45, 42, 47, 37, 33] x) = short1 (x.toNat : Int) := by
  rw [← Lib.contains_iff_indexByte]
  unfold short1
  simp only [List.contains_cons, List.contains_nil, u8]
  rfl
theorem rune_eq (x y : UInt8) : decide (0 ≤ Lib.indexByte [x, y] 32) = (x == 32 || y == 32) := by
  rw [← Lib.contains_iff_indexByte]
  simp only [List.contains_cons, List.contains_nil, Bool.or_false]
  rw [Bool.beq_comm, Bool.beq_comm (a := y)]
/-! tokens -/
theorem dw_tw (q : Int → Bool) (l : List Int) : (l.dropWhile q).length + (l.takeWhile q).length = l.length := by
  have := congrArg List.length (List.takeWhile_append_dropWhile (p := q) (l := l))
  rw [List.length_append] at this
  omega
theorem pos_dw (a : ByteArray) (q : Int → Bool) (l : List Int) : pos a (l.dropWhile q) = pos a l + (l.takeWhile q).length := by
  have := dw_tw q l
  unfold pos; omega
theorem part {a : ByteArray} {l : List Int} (h : l <:+ bs a) {n : Nat} (hn : n ≤ l.length) : bs (a.extract (pos a l).toNat (pos a l + n).toNat) = l.take n := by
  obtain ⟨u, hu⟩ := h
  have e : a.size = u.length + l.length := by rw [← bs_len, ← hu, List.length_append]
  have e1 : (pos a l).toNat = u.length := by unfold pos; omega
  have e2 : (pos a l + n).toNat = u.length + n := by unfold pos; omega
  rw [bs_extract, e1, e2, ← hu, List.drop_left, Nat.add_sub_cancel_left]
theorem part_size {a : ByteArray} {l : List Int} (h : l <:+ bs a) {n : Nat} (hn : n ≤ l.length) : (a.extract (pos a l).toNat (pos a l + n).toNat).size = n := by
  rw [← bs_len, part h hn, List.length_take]; omega
theorem tw_all {q : Int → Bool} : ∀ {l : List Int} {c : Int}, c ∈ l.takeWhile q → q c = true
  | [], c, h => by simp at h
  | d :: l, c, h => by
    rw [List.takeWhile_cons] at h
    by_cases hd : q d = true
    · rw [if_pos hd] at h
      rcases List.mem_cons.mp h with rfl | h
      · exact hd
      · exact tw_all h
    · rw [if_neg hd] at h; simp at h
theorem two_data {s : ByteArray} {c d : Int} (h : bs s = [c, d]) : ∃ x y : UInt8, s.data.toList = [x, y] ∧ c = x.toNat ∧ d = y.toNat := by
  unfold bs at h
  obtain ⟨x, l, h1, h2, h3⟩ := List.map_eq_cons_iff.mp h
  obtain ⟨y, m, h4, h5, h6⟩ := List.map_eq_cons_iff.mp h3
  obtain rfl := List.map_eq_nil_iff.mp h6
  subst h4
  exact ⟨x, y, h1, h2.symm, h5.symm⟩
theorem of_byte {a : ByteArray} {c : Int} (h : c ∈ bs a) : ∃ x : UInt8, c = x.toNat ∧ c.toNat.toUInt8 = x := by
  obtain ⟨x, _, rfl⟩ := List.mem_map.mp h
  exact ⟨x, rfl, by simp⟩
def nextOk (a : ByteArray) (r : List Int) (q : Int × Int × Int × Int × Int) : Prop :=
  q.2.2.2.2 = (tok r).2.2.2 ∧ ((tok r).2.2.2 = 0 → q = ((tok r).1, pos a r, pos a r + (tok r).2.1, (tok r).2.2.1, 0))
theorem next_j {a : ByteArray} (ha : small a) {c : Int} {cs : List Int} (h : c :: cs <:+ bs a) (b : Bool) (n : Nat) (hb : b = true → 1 ≤ cs.length)
    (ht : tok (c :: cs) = if b then (3, 2, 0, 0) else sign1 c) : ∃ q, Ev (fun k => lexer_next.j0 k (pos a (c :: cs)) c b 0 (pos a (c :: cs)) 0 0) q ∧ nextOk a (c :: cs) q := by
  have hs : (a.size : Int) ≤ 9223372036854775806 := by unfold small at ha; omega
  have h0 := pos_ge h
  have h1 := pos_lt a c cs
  cases b with
  | true =>
    have h2 : pos a (c :: cs) + 2 ≤ a.size := by have := hb rfl; unfold pos; rw [List.length_cons]; omega
    refine ⟨(3, pos a (c :: cs), pos a (c :: cs) + 2, 0, 0), ?_, ?_⟩
    · refine Ev.step (fun k => by simp only [lexer_next.j0]; rfl) ?_
      rw [Pv.w64 (by omega) (by omega)]
      exact Pv.pos (by trivial) (Ev.now _)
    · rw [if_pos rfl] at ht
      unfold nextOk; rw [ht]
      exact ⟨rfl, fun _ => rfl⟩
  | false =>
    rw [if_neg (by decide)] at ht
    obtain ⟨x, hx, hx2⟩ := of_byte (h.subset (List.mem_cons_self))
    have e := one_eq x
    rw [← hx] at e
    unfold sign1 at ht
    have st : ∀ k, lexer_next.j0 (k + 1) (pos a (c :: cs)) c false 0 (pos a (c :: cs)) 0 0 = if 0 ≤ Lib.indexByte [59, 58, 44, 40, 41, 46, 63, 60, 62, 43, 45, 42, 47, 37, 33] x then some (3, pos a (c :: cs), wrap64 (pos a (c :: cs) + 1), 0, 0) else some (0, pos a (c :: cs), 0, 0, 4) := by
      intro k
      simp only [lexer_next.j0, strings_IndexByte.f]
      rw [hx2]; rfl
    by_cases hc : short1 c = true
    · rw [if_pos hc] at ht
      rw [hc, decide_eq_true_eq] at e
      refine ⟨(3, pos a (c :: cs), pos a (c :: cs) + 1, 0, 0), ?_, ?_⟩
      · refine Ev.step st ?_
        rw [Pv.w64 (by omega) (by omega)]
        exact Pv.pos e (Ev.now _)
      · unfold nextOk; rw [ht]
        exact ⟨rfl, fun _ => rfl⟩
    · rw [if_neg hc] at ht
      have hc2 : short1 c = false := by simpa using hc
      rw [hc2, decide_eq_false_iff_not] at e
      refine ⟨(0, pos a (c :: cs), 0, 0, 4), Ev.step st (Pv.neg e (Ev.now _)), ?_⟩
      unfold nextOk; rw [ht]
      exact ⟨rfl, fun h => absurd h (by decide)⟩
end Go.Proofs.Ytanickojbgceaaa.Fn04
