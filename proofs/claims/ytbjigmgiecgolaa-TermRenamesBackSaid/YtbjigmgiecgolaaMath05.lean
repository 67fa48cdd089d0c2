/- Expressions in prefix order, without any program: what it is to be n expressions one behind the other (Exs), the values that are computed from the right with a stack (vals), and the walk from the left with open terms (fwd). -/
import Init
namespace Go.Proofs.Ytbjigmgiecgolaa.Math05

def ar (o : Int) : Int := if o < 1 then -1 else if o > 43 then -1 else if o ≤ 17 then 0 else if o ≤ 29 then 1 else if o ≤ 42 then 2 else 3
theorem ar_range (o : Int) : -1 ≤ ar o ∧ ar o ≤ 3 := by
  unfold ar
  repeat' split
  all_goals omega
def agg (o : Int) : Bool := decide (20 ≤ o) && decide (o ≤ 29)

section
variable {α : Type} (op : α → Int)

/-- n expressions one behind the other. -/
inductive Exs : Nat → List α → Prop
  | nil : Exs 0 []
  | cons (t : α) (m n : Nat) (ts rest : List α) : ar (op t) = (m : Int) → Exs m ts → Exs n rest → Exs (n + 1) (t :: (ts ++ rest))

def skip : List α → Nat → Option (List α)
  | l, 0 => some l
  | [], _ + 1 => none
  | t :: ts, n + 1 => if ar (op t) < 0 then none else skip ts (n + (ar (op t)).toNat)

theorem skip_zero (l : List α) : skip op l 0 = some l := by cases l <;> rfl

theorem Exs.append {n m : Nat} {f g : List α} (h : Exs op n f) (h2 : Exs op m g) : Exs op (n + m) (f ++ g) := by
  induction h with
  | nil => simpa using h2
  | cons t k n ts rest ht hts hrest _ ih =>
    have := Exs.cons t k (n + m) ts (rest ++ g) ht hts ih
    rw [show n + 1 + m = n + m + 1 by omega]
    simpa [List.append_assoc] using this

theorem Exs.split {n : Nat} : ∀ {m : Nat} {f : List α}, Exs op (m + n) f → ∃ f1 f2, f = f1 ++ f2 ∧ Exs op m f1 ∧ Exs op n f2
  | 0, f, h => ⟨[], f, rfl, .nil, by simpa using h⟩
  | m + 1, f, h => by
    rw [show m + 1 + n = m + n + 1 by omega] at h
    cases h with
    | cons t k _ ts rest ht hts hrest =>
      obtain ⟨g1, g2, rfl, h1, h2⟩ := Exs.split hrest
      exact ⟨t :: (ts ++ g1), g2, by simp, .cons t k m ts g1 ht hts h1, h2⟩

theorem Exs.zero {f : List α} (h : Exs op 0 f) : f = [] := by cases h; rfl
theorem Exs.ne_nil {n : Nat} {f : List α} (h : Exs op (n + 1) f) : f ≠ [] := by cases h; simp

theorem skip_of_Exs {n : Nat} {f : List α} (h : Exs op n f) : ∀ (r : List α) (j : Nat), skip op (f ++ r) (n + j) = skip op r j := by
  induction h with
  | nil => intro r j; simp
  | cons t m n ts rest ht _ _ ih1 ih2 =>
    intro r j
    rw [show n + 1 + j = n + j + 1 by omega]
    show (if ar (op t) < 0 then none else skip op (ts ++ rest ++ r) (n + j + (ar (op t)).toNat)) = _
    rw [if_neg (by omega), ht, Int.toNat_natCast, show n + j + m = m + (n + j) by omega, List.append_assoc, ih1, ih2]

theorem skip_of_Exs' {n : Nat} {f : List α} (h : Exs op n f) (r : List α) : skip op (f ++ r) n = some r := by
  have := skip_of_Exs op h r 0
  rw [Nat.add_zero, skip_zero] at this
  exact this

theorem Exs_of_skip : ∀ (l : List α) (n : Nat) (r : List α), skip op l n = some r → ∃ f, Exs op n f ∧ l = f ++ r
  | l, 0, r, h => by rw [skip_zero] at h; injection h with h; subst h; exact ⟨[], .nil, rfl⟩
  | [], n + 1, r, h => by simp [skip] at h
  | t :: ts, n + 1, r, h => by
    simp only [skip] at h
    split at h
    · cases h
    · rename_i hneg
      obtain ⟨f, hf, rfl⟩ := Exs_of_skip ts _ r h
      rw [Nat.add_comm] at hf
      obtain ⟨f1, f2, rfl, h1, h2⟩ := Exs.split op hf
      exact ⟨t :: (f1 ++ f2), .cons t _ n f1 f2 (by omega) h1 h2, by simp⟩

theorem skip_append {l r : List α} {n : Nat} (h : skip op l n = some r) (g : List α) : skip op (l ++ g) n = some (r ++ g) := by
  obtain ⟨f, hf, rfl⟩ := Exs_of_skip op l n r h
  rw [List.append_assoc, skip_of_Exs' op hf]

theorem skip_suffix {l r : List α} {n : Nat} (h : skip op l n = some r) : ∃ f, l = f ++ r := by
  obtain ⟨f, _, h⟩ := Exs_of_skip op l n r h
  exact ⟨f, h⟩

theorem skip_add (l : List α) (m : Nat) : ∀ (r : List α) (n : Nat), skip op l m = some r → skip op l (m + n) = skip op r n := by
  intro r n h
  obtain ⟨f, hf, rfl⟩ := Exs_of_skip op l m r h
  exact skip_of_Exs op hf r n

/-- Every end of a list of expressions is one. -/
theorem Exs.drop {n : Nat} {f : List α} (h : Exs op n f) : ∀ i, i < f.length → ∃ j, Exs op (j + 1) (f.drop i) := by
  induction h with
  | nil => intro i hi; simp at hi
  | cons t m n ts rest ht hts hrest ih1 ih2 =>
    intro i hi
    cases i with
    | zero => exact ⟨n, .cons t m n ts rest ht hts hrest⟩
    | succ i =>
      simp only [List.drop_succ_cons]
      simp only [List.length_cons, List.length_append] at hi
      by_cases hlt : i < ts.length
      · obtain ⟨j, hj⟩ := ih1 i hlt
        refine ⟨j + n, ?_⟩
        rw [List.drop_append_of_le_length (by omega), show j + n + 1 = j + 1 + n by omega]
        exact hj.append op hrest
      · obtain ⟨j, hj⟩ := ih2 (i - ts.length) (by omega)
        exact ⟨j, by rw [List.drop_append, List.drop_of_length_le (by omega)]; simpa using hj⟩

def mxl (l : List Int) : Int := l.foldr max 0
theorem mxl_nonneg (l : List Int) : 0 ≤ mxl l := by
  induction l with
  | nil => exact Int.le_refl _
  | cons a l ih => show 0 ≤ max a (mxl l); omega
theorem mxl_cons (a : Int) (l : List Int) : mxl (a :: l) = max a (mxl l) := rfl
theorem mxl_append (l r : List Int) : mxl (l ++ r) = max (mxl l) (mxl r) := by
  induction l with
  | nil => show mxl r = max 0 (mxl r); have := mxl_nonneg r; omega
  | cons a l ih => show max a (mxl (l ++ r)) = max (max a (mxl l)) (mxl r); rw [ih]; omega
theorem mxl_mem {l : List Int} {a : Int} (h : a ∈ l) : a ≤ mxl l := by
  induction l with
  | nil => cases h
  | cons b l ih =>
    rw [mxl_cons]
    rcases List.mem_cons.1 h with rfl | h
    · omega
    · have := ih h; omega

variable (of : Int → Int → Int)
/-- The stack that is left when a list has been gone through from the right; the top is its head. -/
def vals : List α → List Int
  | [] => []
  | t :: ts => of (op t) (mxl ((vals ts).take (ar (op t)).toNat)) :: (vals ts).drop (ar (op t)).toNat

theorem vals_append {n : Nat} {f : List α} (h : Exs op n f) : (vals op of f).length = n ∧ ∀ r, vals op of (f ++ r) = vals op of f ++ vals op of r := by
  induction h with
  | nil => exact ⟨rfl, fun r => rfl⟩
  | cons t m n ts rest ht hts hrest ih1 ih2 =>
    have key : ∀ r, vals op of (t :: (ts ++ rest ++ r)) = of (op t) (mxl (vals op of ts)) :: (vals op of rest ++ vals op of r) := by
      intro r
      show of (op t) (mxl ((vals op of (ts ++ rest ++ r)).take (ar (op t)).toNat)) :: (vals op of (ts ++ rest ++ r)).drop (ar (op t)).toNat = _
      rw [List.append_assoc, ih1.2, ih2.2, ht, Int.toNat_natCast]
      have hl := ih1.1
      subst hl
      rw [List.take_left, List.drop_left]
    have k0 := key []
    simp only [List.append_nil] at k0
    rw [show vals op of [] = [] from rfl, List.append_nil] at k0
    refine ⟨by rw [k0, List.length_cons, ih2.1], fun r => ?_⟩
    rw [k0]
    exact key r

theorem vals_one {t : α} {ts : List α} (h : Exs op 1 (t :: ts)) : vals op of (t :: ts) = [of (op t) (mxl (vals op of ts))] ∧ ∃ m : Nat, ar (op t) = m ∧ Exs op m ts := by
  cases h with
  | cons _ m n ts rest ht hts hrest =>
    obtain rfl := hrest.zero
    have h1 := (vals_append op of hts).1
    rw [List.append_nil]
    refine ⟨?_, m, ht, hts⟩
    show of (op t) (mxl ((vals op of ts).take (ar (op t)).toNat)) :: (vals op of ts).drop (ar (op t)).toNat = _
    rw [ht, Int.toNat_natCast, ← h1, List.take_length, List.drop_length]

theorem vals_drop (hof : ∀ o x, x ≤ of o x) : ∀ (f : List α) (i : Nat), mxl (vals op of (f.drop i)) ≤ mxl (vals op of f)
  | [], i => by simp
  | t :: ts, 0 => by simp
  | t :: ts, i + 1 => by
    have ih := vals_drop hof ts i
    rw [List.drop_succ_cons]
    refine Int.le_trans ih ?_
    show _ ≤ mxl (of (op t) (mxl ((vals op of ts).take (ar (op t)).toNat)) :: (vals op of ts).drop (ar (op t)).toNat)
    have h1 : mxl (vals op of ts) = mxl ((vals op of ts).take (ar (op t)).toNat ++ (vals op of ts).drop (ar (op t)).toNat) := by rw [List.take_append_drop]
    rw [h1, mxl_append, mxl_cons]
    have := hof (op t) (mxl ((vals op of ts).take (ar (op t)).toNat))
    omega

/-! The walk from the left: what is open, the innermost first: how many operands are still to come, and is it an aggregate. -/
def done : List (Int × Bool) → List (Int × Bool)
  | [] => []
  | (c, b) :: r => if c = 1 then done r else (c - 1, b) :: r
def cnt : List (Int × Bool) → Int
  | [] => 0
  | (_, b) :: r => (if b then 1 else 0) + cnt r
theorem cnt_nonneg (l : List (Int × Bool)) : 0 ≤ cnt l := by
  induction l with
  | nil => exact Int.le_refl _
  | cons a l ih => show 0 ≤ (if a.2 then 1 else 0) + cnt l; split <;> omega
def fwd : List α → Int → Int → List (Int × Bool) → Int × Int
  | [], d, m, _ => (d, m)
  | t :: ts, d, m, L => fwd ts (max d (L.length + 1)) (max m ((if agg (op t) then 1 else 0) + cnt L)) (if ar (op t) = 0 then done L else (ar (op t), agg (op t)) :: L)

def ofD (_ x : Int) : Int := x + 1
def ofN (o x : Int) : Int := if agg o then x + 1 else x
theorem ofN_eq (o x : Int) : ofN o x = if agg o then x + 1 else x := rfl

theorem fwd_Exs {n : Nat} {f : List α} (h : Exs op n f) :
    (n = 1 → ∀ (L : List (Int × Bool)) (d m : Int) (r : List α), (L.length : Int) ≤ d → cnt L ≤ m →
      fwd op (f ++ r) d m L = fwd op r (max d (L.length + mxl (vals op ofD f))) (max m (cnt L + mxl (vals op ofN f))) (done L)) ∧
    (∀ (c : Int) (b : Bool) (q : List (Int × Bool)) (d m : Int) (r : List α), (n : Int) ≤ c → 1 ≤ c → (q.length : Int) + 1 ≤ d → cnt ((c, b) :: q) ≤ m →
      fwd op (f ++ r) d m ((c, b) :: q) = fwd op r (max d (q.length + 1 + mxl (vals op ofD f))) (max m (cnt ((c, b) :: q) + mxl (vals op ofN f))) (if (n : Int) = c then done q else (c - n, b) :: q)) := by
  induction h with
  | nil =>
    refine ⟨fun h => by omega, fun c b q d m r h1 h2 h3 h4 => ?_⟩
    have e1 : max d ((q.length : Int) + 1 + mxl []) = d := by show max d ((q.length : Int) + 1 + 0) = d; omega
    have e2 : max m (cnt ((c, b) :: q) + mxl []) = m := by show max m (cnt ((c, b) :: q) + 0) = m; omega
    show fwd op r d m ((c, b) :: q) = fwd op r (max d ((q.length : Int) + 1 + mxl [])) (max m (cnt ((c, b) :: q) + mxl [])) (if ((0 : Nat) : Int) = c then done q else (c - ((0 : Nat) : Int), b) :: q)
    rw [e1, e2, if_neg (by omega)]
    simp
  | cons t k n ts rest ht hts hrest ih1 ih2 =>
    -- the first one alone
    have tree : ∀ (L : List (Int × Bool)) (d m : Int) (r : List α), (L.length : Int) ≤ d → cnt L ≤ m →
        fwd op (t :: (ts ++ r)) d m L = fwd op r (max d (L.length + (mxl (vals op ofD ts) + 1))) (max m (cnt L + ofN (op t) (mxl (vals op ofN ts)))) (done L) := by
      intro L d m r hd hm
      have hD := mxl_nonneg (vals op ofD ts)
      have hN := mxl_nonneg (vals op ofN ts)
      have hc := cnt_nonneg L
      show fwd op (ts ++ r) (max d (L.length + 1)) (max m ((if agg (op t) then 1 else 0) + cnt L)) (if ar (op t) = 0 then done L else (ar (op t), agg (op t)) :: L) = _
      by_cases hk : ar (op t) = 0
      · have : k = 0 := by omega
        subst this
        obtain rfl := hts.zero
        rw [if_pos hk]
        show fwd op r _ _ _ = fwd op r (max d (L.length + (mxl [] + 1))) (max m (cnt L + ofN (op t) (mxl []))) (done L)
        have e1 : (if agg (op t) then (1 : Int) else 0) + cnt L = cnt L + ofN (op t) (mxl []) := by
          show _ = cnt L + (if agg (op t) then (0 : Int) + 1 else 0)
          split <;> omega
        rw [e1]
        rfl
      · rw [if_neg hk, ht]
        have hcn : cnt (((k : Int), agg (op t)) :: L) = (if agg (op t) then 1 else 0) + cnt L := rfl
        rw [ih1.2 (k : Int) (agg (op t)) L _ _ r (Int.le_refl _) (by omega) (by omega) (by rw [hcn]; omega), if_pos rfl, hcn]
        have e1 : max (max d ((L.length : Int) + 1)) ((L.length : Int) + 1 + mxl (vals op ofD ts)) = max d ((L.length : Int) + (mxl (vals op ofD ts) + 1)) := by omega
        have e2 : max (max m ((if agg (op t) then 1 else 0) + cnt L)) ((if agg (op t) then 1 else 0) + cnt L + mxl (vals op ofN ts)) = max m (cnt L + ofN (op t) (mxl (vals op ofN ts))) := by
          rw [ofN_eq]
          split <;> omega
        rw [e1, e2]
    have vD := vals_append op ofD (Exs.cons t k 0 ts [] ht hts .nil)
    have vN := vals_append op ofN (Exs.cons t k 0 ts [] ht hts .nil)
    have oD := (vals_one op ofD (by simpa using Exs.cons t k 0 ts [] ht hts .nil)).1
    have oN := (vals_one op ofN (by simpa using Exs.cons t k 0 ts [] ht hts .nil)).1
    simp only [List.append_nil] at vD vN
    have aD : vals op ofD (t :: (ts ++ rest)) = (mxl (vals op ofD ts) + 1) :: vals op ofD rest := by
      have := vD.2 rest
      rw [oD] at this
      simpa [ofD] using this
    have aN : vals op ofN (t :: (ts ++ rest)) = ofN (op t) (mxl (vals op ofN ts)) :: vals op ofN rest := by
      have := vN.2 rest
      rw [oN] at this
      simpa using this
    have n1 := mxl_nonneg (vals op ofD ts)
    have n2 := mxl_nonneg (vals op ofN ts)
    have n3 := mxl_nonneg (vals op ofD rest)
    have n4 := mxl_nonneg (vals op ofN rest)
    have n5 : 0 ≤ ofN (op t) (mxl (vals op ofN ts)) := by rw [ofN_eq]; split <;> omega
    refine ⟨fun hn L d m r hd hm => ?_, fun c b q d m r h1 h2 h3 h4 => ?_⟩
    · have : n = 0 := by omega
      subst this
      obtain rfl := hrest.zero
      have := tree L d m r hd hm
      rw [aD, aN, mxl_cons, mxl_cons]
      simp only [List.append_nil, List.cons_append]
      rw [this]
      have e1 : max (mxl (vals op ofD ts) + 1) (mxl (vals op ofD [])) = mxl (vals op ofD ts) + 1 := by show max _ (0 : Int) = _; omega
      have e2 : max (ofN (op t) (mxl (vals op ofN ts))) (mxl (vals op ofN [])) = ofN (op t) (mxl (vals op ofN ts)) := by show max _ (0 : Int) = _; omega
      rw [e1, e2]
    · rw [aD, aN, mxl_cons, mxl_cons]
      have e0 : t :: (ts ++ rest) ++ r = t :: (ts ++ (rest ++ r)) := by simp
      have hl : (((c, b) :: q).length : Int) = (q.length : Int) + 1 := by simp
      rw [e0, tree ((c, b) :: q) d m (rest ++ r) (by omega) h4, hl]
      by_cases hn : n = 0
      · subst hn
        obtain rfl := hrest.zero
        have e1 : max (mxl (vals op ofD ts) + 1) (mxl (vals op ofD [])) = mxl (vals op ofD ts) + 1 := by show max _ (0 : Int) = _; omega
        have e2 : max (ofN (op t) (mxl (vals op ofN ts))) (mxl (vals op ofN [])) = ofN (op t) (mxl (vals op ofN ts)) := by show max _ (0 : Int) = _; omega
        rw [e1, e2, List.nil_append]
        have e3 : done ((c, b) :: q) = if ((0 + 1 : Nat) : Int) = c then done q else (c - ((0 + 1 : Nat) : Int), b) :: q := by
          show (if c = 1 then done q else (c - 1, b) :: q) = _
          by_cases hc : c = 1
          · rw [if_pos hc, if_pos (by omega)]
          · rw [if_neg hc, if_neg (by omega)]; simp
        rw [e3]
      · have hc : c ≠ 1 := by omega
        have e3 : done ((c, b) :: q) = (c - 1, b) :: q := by
          show (if c = 1 then done q else (c - 1, b) :: q) = _
          rw [if_neg hc]
        have hcn : cnt ((c - 1, b) :: q) = cnt ((c, b) :: q) := rfl
        rw [e3, ih2.2 (c - 1) b q _ _ r (by omega) (by omega) (by omega) (by rw [hcn]; omega), hcn]
        have e4 : max (max d ((q.length : Int) + 1 + (mxl (vals op ofD ts) + 1))) ((q.length : Int) + 1 + mxl (vals op ofD rest)) = max d ((q.length : Int) + 1 + max (mxl (vals op ofD ts) + 1) (mxl (vals op ofD rest))) := by omega
        have e5 : max (max m (cnt ((c, b) :: q) + ofN (op t) (mxl (vals op ofN ts)))) (cnt ((c, b) :: q) + mxl (vals op ofN rest)) = max m (cnt ((c, b) :: q) + max (ofN (op t) (mxl (vals op ofN ts))) (mxl (vals op ofN rest))) := by omega
        rw [e4, e5]
        by_cases hcc : (n : Int) = c - 1
        · rw [if_pos hcc, if_pos (by omega)]
        · rw [if_neg hcc, if_neg (by omega)]
          have : c - 1 - (n : Int) = c - ((n + 1 : Nat) : Int) := by omega
          rw [this]

theorem fwd_one {f : List α} (h : Exs op 1 f) : fwd op f 0 0 [] = (mxl (vals op ofD f), mxl (vals op ofN f)) := by
  have := (fwd_Exs op h).1 rfl [] 0 0 [] (by simp) (Int.le_refl _)
  rw [List.append_nil] at this
  rw [this]
  have h1 := mxl_nonneg (vals op ofD f)
  have h2 := mxl_nonneg (vals op ofN f)
  show (max 0 ((0 : Nat) + mxl (vals op ofD f)), max 0 (0 + mxl (vals op ofN f))) = _
  congr 1 <;> omega
end
end Go.Proofs.Ytbjigmgiecgolaa.Math05
