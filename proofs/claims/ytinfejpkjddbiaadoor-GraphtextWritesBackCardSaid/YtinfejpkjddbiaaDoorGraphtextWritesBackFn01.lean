/- Part of the proof of the law GraphtextWritesBack: Fn01. -/
import Derived.Test.YtinfejpkjddbiaaDoorGraphtextWritesBackP3
import Derived.Test.YtinfejpkjddbiaaDoorGraphtextWritesBackP7
import Derived.Test.YtinfejpkjddbiaaDoorGraphtextWritesBackPv
namespace Go.Proofs.YtinfejpkjddbiaaDoor.Fn01
open Go.RowKit Go.Proofs.YtinfejpkjddbiaaDoor.P Go.Proofs.YtinfejpkjddbiaaDoorW.PrintWords Go.Proofs.YtinfejpkjddbiaaDoorW.PrintLast Go.Proofs.YtinfejpkjddbiaaDoorW.PrintMore Go.Proofs.YtinfejpkjddbiaaDoor.Mp
set_option linter.unusedVariables false
set_option linter.unusedSimpArgs false
abbrev Row := List S41
def okL (n v : Int) (l : S41) : Prop := (0 ≤ l.f0 ∧ l.f0 < n) ∧ l.f0 ≠ v ∧ 1 ≤ l.f1 ∧ l.f1 ≤ 15
def wt : Row → Int → Int
 | [], _ => 0
 | l :: ls, y => if l.f0 = y then l.f1 else wt ls y
theorem wt_not : ∀ {r : Row} {y : Int}, (∀ l ∈ r, l.f0 ≠ y) → wt r y = 0
 | [], _, _ => rfl
 | l :: ls, y, h => by rw [wt, if_neg (h l (by simp))]; exact wt_not (fun u hu => h u (by simp [hu]))
theorem wt_mem : ∀ {r : Row}, (r.map (·.f0)).Nodup → ∀ l ∈ r, wt r l.f0 = l.f1
 | a :: r, hn, l, hl => by
  rw [List.map_cons, List.nodup_cons] at hn
  rcases List.mem_cons.1 hl with rfl | hl
  ·rw [wt, if_pos rfl]
  ·rw [wt, if_neg (fun e => hn.1 (by rw [e]; exact List.mem_map_of_mem hl))]
   exact wt_mem hn.2 l hl
def Links (n v : Int) (r : Row) : Prop := (∀ l ∈ r, okL n v l) ∧ (r.map (·.f0)).Nodup
structure VG (ids : List Int) (ps : List Row) : Prop where
 n1 : 1 ≤ ps.length
 n2 : ps.length ≤ 24
 len : ids.length = ps.length
 rng : ∀ x ∈ ids, 0 ≤ x ∧ x ≤ 255
 nod : ids.Nodup
 lnk : ∀ (i : Nat) r, ps[i]? = some r → Links ps.length i r
 sym : ∀ (i : Nat) r, ps[i]? = some r → ∀ l ∈ r, wt (ps.getD l.f0.toNat []) i = l.f1
theorem ids_iff : ∀ (xs seen : List Int), graph_Valid.ids seen xs = true ↔ (∀ x ∈ xs, 0 ≤ x ∧ x ≤ 255) ∧ xs.Nodup ∧ ∀ x ∈ xs, x ∉ seen
 | [], seen => by simp [graph_Valid.ids]
 | x :: xs, seen => by
  unfold graph_Valid.ids
  by_cases h1 : x < 0
  ·rw [if_pos h1]
   exact ⟨fun h => absurd h (by decide), fun h => absurd (h.1 x (by simp)).1 (by omega)⟩
  ·rw [if_neg h1]
   by_cases h2 : x > 255
   ·rw [if_pos h2]
    exact ⟨fun h => absurd h (by decide), fun h => absurd (h.1 x (by simp)).2 (by omega)⟩
   ·rw [if_neg h2]
    by_cases h3 : seen.contains x = true
    ·rw [if_pos h3]
     exact ⟨fun h => absurd h (by decide), fun h => absurd (List.contains_iff_mem.1 h3) (h.2.2 x (by simp))⟩
    ·rw [if_neg h3, ids_iff xs (x :: seen)]
     have h3' : x ∉ seen := fun hm => h3 (List.contains_iff_mem.2 hm)
     constructor
     ·rintro ⟨a, b, c⟩
      refine ⟨?_, ?_, ?_⟩
      ·intro y hy;rcases List.mem_cons.1 hy with rfl | hy
       ·omega
       ·exact a y hy
      ·exact List.nodup_cons.2 ⟨fun hm => c x hm (by simp), b⟩
      ·intro y hy;rcases List.mem_cons.1 hy with rfl | hy
       ·exact h3'
       ·exact fun hm => c y hy (by simp [hm])
     ·rintro ⟨a, b, c⟩
      rw [List.nodup_cons] at b
      refine ⟨fun y hy => a y (by simp [hy]), b.2, fun y hy hm => ?_⟩
      rcases List.mem_cons.1 hm with rfl | hm
      ·exact b.1 hy
      ·exact c y (by simp [hy]) hm
def lkAt (v : Int) (r : Row) (ws : List (Int × Int × Int)) (x y : Int) : Int := if x = v ∧ wt r y ≠ 0 then wt r y else lk ws x y
theorem row_some {n v : Int} : ∀ {r : Row} {ws ws2 : List (Int × Int × Int)}, graph_Valid.row n v ws r = some ws2 →
  (∀ l ∈ r, okL n v l) ∧ (r.map (·.f0)).Nodup ∧ (∀ l ∈ r, lk ws v l.f0 = 0) ∧ (∀ x y, lk ws2 x y = lkAt v r ws x y) ∧ ∀ t, t ∈ ws2 ↔ (t.1 = v ∧ ∃ l ∈ r, l.f0 = t.2.1 ∧ l.f1 = t.2.2) ∨ t ∈ ws
 | [], ws, ws2, h => by
  simp only [graph_Valid.row, Option.some.injEq] at h
  subst h;refine ⟨by simp, by simp, by simp, fun x y => ?_, fun t => by simp⟩
  unfold lkAt; rw [if_neg (fun h => h.2 rfl)]
 | l :: r, ws, ws2, h => by
  unfold graph_Valid.row at h
  by_cases h1 : l.f0 < 0
  ·rw [if_pos h1] at h; cases h
  rw [if_neg h1] at h
  by_cases h2 : l.f0 ≥ n
  ·rw [if_pos h2] at h; cases h
  rw [if_neg h2] at h
  by_cases h3 : l.f0 = v
  ·rw [if_pos h3] at h; cases h
  rw [if_neg h3] at h
  by_cases h4 : l.f1 < 1
  ·rw [if_pos h4] at h; cases h
  rw [if_neg h4] at h
  by_cases h5 : l.f1 > 15
  ·rw [if_pos h5] at h; cases h
  rw [if_neg h5] at h
  by_cases h6 : lk ws v l.f0 = 0
  case neg => rw [if_neg h6] at h; cases h
  rw [if_pos h6] at h
  obtain ⟨a, b, c, d, e⟩ := row_some h
  have hlk : ∀ x y, lk ((v, l.f0, l.f1) :: ws) x y = if v = x then (if l.f0 = y then l.f1 else lk ws x y) else lk ws x y := fun x y => rfl
  have hne : ∀ m ∈ r, m.f0 ≠ l.f0 := by
   intro m hm e0;have := c m hm
   rw [hlk, if_pos rfl, if_pos e0.symm] at this
   omega
  refine ⟨?_, ?_, ?_, ?_, ?_⟩
  ·intro m hm;rcases List.mem_cons.1 hm with rfl | hm
   ·exact ⟨⟨by omega, by omega⟩, h3, by omega, by omega⟩
   ·exact a m hm
  ·rw [List.map_cons, List.nodup_cons]
   refine ⟨fun hm => ?_, b⟩
   obtain ⟨m, hm, he⟩ := List.mem_map.1 hm
   exact hne m hm he
  ·intro m hm;rcases List.mem_cons.1 hm with rfl | hm
   ·exact h6
   ·have := c m hm
    rw [hlk, if_pos rfl, if_neg (fun e0 => hne m hm e0.symm)] at this
    exact this
  ·intro x y;rw [d x y]
   unfold lkAt
   rw [hlk]
   by_cases hx : x = v
   ·subst hx;by_cases hy : l.f0 = y
    ·subst hy;rw [wt_not hne, if_neg (fun h => h.2 rfl), if_pos rfl, if_pos rfl]
     rw [wt, if_pos rfl, if_pos ⟨rfl, by omega⟩]
    ·rw [wt, if_neg hy, if_pos rfl, if_neg hy]
   ·rw [if_neg (fun h => hx h.1), if_neg (fun h => hx h.symm), if_neg (fun h => hx h.1)]
  ·intro t;rw [e t]
   constructor
   ·rintro (⟨h, m, hm, h7⟩ | h)
    ·exact Or.inl ⟨h, m, by simp [hm], h7⟩
    ·rcases List.mem_cons.1 h with rfl | h
     ·exact Or.inl ⟨rfl, l, by simp, rfl, rfl⟩
     ·exact Or.inr h
   ·rintro (⟨h, m, hm, h7⟩ | h)
    ·rcases List.mem_cons.1 hm with rfl | hm
     ·refine Or.inr ?_
      have : t = (v, m.f0, m.f1) := by
       obtain ⟨t1, t2, t3⟩ := t
       simp only at h h7
       rw [h, h7.1, h7.2]
      rw [this]; simp
     ·exact Or.inl ⟨h, m, hm, h7⟩
    ·exact Or.inr (by simp [h])
theorem row_ok {n v : Int} : ∀ {r : Row} {ws : List (Int × Int × Int)}, (∀ l ∈ r, okL n v l) → (r.map (·.f0)).Nodup → (∀ l ∈ r, lk ws v l.f0 = 0) → ∃ ws2, graph_Valid.row n v ws r = some ws2
 | [], ws, _, _, _ => ⟨ws, rfl⟩
 | l :: r, ws, a, b, c => by
  obtain ⟨⟨k1, k2⟩, k3, k4, k5⟩ := a l (by simp)
  rw [List.map_cons, List.nodup_cons] at b
  unfold graph_Valid.row
  rw [if_neg (by omega), if_neg (by omega), if_neg k3, if_neg (by omega), if_neg (by omega), if_pos (c l (by simp))]
  refine row_ok (fun m hm => a m (by simp [hm])) b.2 (fun m hm => ?_)
  show (if v = v then (if l.f0 = m.f0 then l.f1 else lk ws v m.f0) else lk ws v m.f0) = 0
  rw [if_pos rfl, if_neg (fun e0 => b.1 (by rw [e0]; exact List.mem_map_of_mem hm))]
  exact c m (by simp [hm])
theorem rows_some {n : Int} : ∀ {rs : List Row} {v : Int} {ws ws2 : List (Int × Int × Int)}, graph_Valid.rows n v ws rs = some ws2 → (∀ x y, v ≤ x → lk ws x y = 0) →
  (∀ (i : Nat) r, rs[i]? = some r → Links n (v + i) r) ∧ (∀ x y, lk ws2 x y = if v ≤ x ∧ x < v + rs.length then wt (rs.getD (x - v).toNat []) y else lk ws x y) ∧
  ∀ t, t ∈ ws2 ↔ (∃ (i : Nat) (r : Row), rs[i]? = some r ∧ t.1 = v + i ∧ ∃ l ∈ r, l.f0 = t.2.1 ∧ l.f1 = t.2.2) ∨ t ∈ ws
 | [], v, ws, ws2, h, _ => by
  simp only [graph_Valid.rows, Option.some.injEq] at h
  subst h;refine ⟨by simp, fun x y => ?_, fun t => by simp⟩
  rw [if_neg]; simp only [List.length_nil]; omega
 | r :: rs, v, ws, ws2, h, h0 => by
  unfold graph_Valid.rows at h
  obtain ⟨ws1, h1, h2⟩ := Option.bind_eq_some_iff.1 h
  obtain ⟨a, b, c, d, e⟩ := row_some h1
  have hz : ∀ x y, v + 1 ≤ x → lk ws1 x y = 0 := by
   intro x y hx;rw [d x y]
   unfold lkAt
   rw [if_neg (fun h => by omega)]
   exact h0 x y (by omega)
  obtain ⟨a2, d2, e2⟩ := rows_some h2 hz
  refine ⟨?_, ?_, ?_⟩
  ·intro i q hq;cases i with
   | zero =>
    simp only [List.getElem?_cons_zero, Option.some.injEq] at hq
    subst hq;have h9 : Links n v r := ⟨a, b⟩
    rwa [show v + ((0 : Nat) : Int) = v by omega]
   | succ i =>
    rw [List.getElem?_cons_succ] at hq
    have := a2 i q hq
    rwa [show v + 1 + (i : Int) = v + ((i + 1 : Nat) : Int) by omega] at this
  ·intro x y;rw [d2 x y]
   simp only [List.length_cons];by_cases hx : x = v
   ·subst hx;rw [if_neg (by omega), if_pos (by omega), Int.sub_self, d x y]
    unfold lkAt
    show _ = wt r y
    by_cases hw : wt r y = 0
    ·rw [if_neg (fun h => h.2 hw), hw]; exact h0 x y (Int.le_refl _)
    ·rw [if_pos ⟨rfl, hw⟩]
   ·by_cases hr : v + 1 ≤ x ∧ x < v + 1 + rs.length
    ·rw [if_pos hr, if_pos (by omega)]
     have : (x - v).toNat = (x - (v + 1)).toNat + 1 := by omega
     rw [this]; rfl
    ·rw [if_neg hr, if_neg (by omega), d x y]
     unfold lkAt
     rw [if_neg (fun h => hx h.1)]
  ·intro t;rw [e2 t, e t]
   constructor
   ·rintro (⟨i, q, hq, h3, h4⟩ | (⟨h3, h4⟩ | h3))
    ·exact Or.inl ⟨i + 1, q, by rw [List.getElem?_cons_succ]; exact hq, by omega, h4⟩
    ·exact Or.inl ⟨0, r, rfl, by simpa using h3, h4⟩
    ·exact Or.inr h3
   ·rintro (⟨i, q, hq, h3, h4⟩ | h3)
    ·cases i with
     | zero =>
      simp only [List.getElem?_cons_zero, Option.some.injEq] at hq
      subst hq;exact Or.inr (Or.inl ⟨by simpa using h3, h4⟩)
     | succ i =>
      rw [List.getElem?_cons_succ] at hq
      exact Or.inl ⟨i, q, hq, by omega, h4⟩
    ·exact Or.inr (Or.inr h3)
theorem rows_ok {n : Int} : ∀ {rs : List Row} {v : Int} {ws : List (Int × Int × Int)}, (∀ (i : Nat) r, rs[i]? = some r → Links n (v + i) r) → (∀ x y, v ≤ x → lk ws x y = 0) → ∃ ws2, graph_Valid.rows n v ws rs = some ws2
 | [], v, ws, _, _ => ⟨ws, rfl⟩
 | r :: rs, v, ws, a, h0 => by
  have h1 := a 0 r rfl
  rw [show v + ((0 : Nat) : Int) = v by omega] at h1
  obtain ⟨ws1, hw⟩ := row_ok (ws := ws) h1.1 h1.2 (fun l _ => h0 v l.f0 (Int.le_refl _))
  obtain ⟨_, _, _, d, _⟩ := row_some hw
  obtain ⟨ws2, h2⟩ := rows_ok (rs := rs) (v := v + 1) (ws := ws1) (fun i q hq => by
   have := a (i + 1) q (by rw [List.getElem?_cons_succ]; exact hq)
   rwa [show v + ((i + 1 : Nat) : Int) = v + 1 + (i : Int) by omega] at this) (fun x y hx => by
   rw [d x y]; unfold lkAt; rw [if_neg (fun h => by omega)]; exact h0 x y (by omega))
  exact ⟨ws2, by unfold graph_Valid.rows; rw [hw]; exact h2⟩
theorem getD_row {ps : List Row} {i : Nat} {r : Row} (h : ps[i]? = some r) : ps.getD i [] = r := by rw [List.getD_eq_getElem?_getD, h]; rfl
theorem val_iff (ids : List Int) (ps : List Row) : graph_Valid.val ids ps = true ↔ VG ids ps := by
 unfold graph_Valid.val
 by_cases h1 : (ps.length : Int) < 1
 ·rw [if_pos h1]; exact ⟨fun h => absurd h (by decide), fun h => absurd h.n1 (by omega)⟩
 rw [if_neg h1]
 by_cases h2 : (ps.length : Int) > 24
 ·rw [if_pos h2]; exact ⟨fun h => absurd h (by decide), fun h => absurd h.n2 (by omega)⟩
 rw [if_neg h2]
 by_cases h3 : (ids.length : Int) = (ps.length : Int)
 case neg => rw [if_neg h3]; exact ⟨fun h => absurd h (by decide), fun h => absurd h.len (by omega)⟩
 rw [if_pos h3, Bool.and_eq_true, ids_iff]
 constructor
 ·rintro ⟨⟨a, b, _⟩, hf⟩
  cases hr : graph_Valid.rows (ps.length : Int) 0 [] ps with
  | none => rw [hr] at hf; cases hf
  | some ws =>
   rw [hr] at hf
   obtain ⟨c, d, e⟩ := rows_some hr (fun _ _ _ => rfl)
   have lnk : ∀ (i : Nat) r, ps[i]? = some r → Links ps.length i r := fun i r h => by have := c i r h; rwa [Int.zero_add] at this
   refine ⟨by omega, by omega, by omega, a, b, lnk, fun i r h l hl => ?_⟩
   have hs : sym ws = true := hf
   unfold sym at hs
   rw [List.all_eq_true] at hs
   have hm : ((i : Int), l.f0, l.f1) ∈ ws := (e _).2 (Or.inl ⟨i, r, h, by simp, l, hl, rfl, rfl⟩)
   have := beq_iff_eq.1 (hs _ hm)
   simp only at this
   have ok := (lnk i r h).1 l hl
   have hi : i < ps.length := (List.getElem?_eq_some_iff.1 h).1
   rw [d, d, if_pos (by have := ok.1; omega), if_pos (by omega), Int.sub_zero, Int.sub_zero, Int.toNat_natCast, getD_row h, wt_mem (lnk i r h).2 l hl] at this
   exact this
 ·intro h;obtain ⟨ws, hr⟩ := rows_ok (n := (ps.length : Int)) (rs := ps) (v := 0) (ws := []) (fun i r hr => by have := h.lnk i r hr; rwa [Int.zero_add]) (fun _ _ _ => rfl)
  obtain ⟨c, d, e⟩ := rows_some hr (fun _ _ _ => rfl)
  refine ⟨⟨h.rng, h.nod, by simp⟩, ?_⟩
  rw [hr]
  show sym ws = true
  unfold sym
  rw [List.all_eq_true]
  intro t ht;rcases (e t).1 ht with ⟨i, r, hi, h5, l, hl, h6, h7⟩ | ht
  ·rw [beq_iff_eq, h5, ← h6]
   have ok := (h.lnk i r hi).1 l hl
   have hi2 : i < ps.length := (List.getElem?_eq_some_iff.1 hi).1
   rw [Int.zero_add, d, d, if_pos (by have := ok.1; omega), if_pos (by omega), Int.sub_zero, Int.sub_zero, Int.toNat_natCast, getD_row hi, wt_mem (h.lnk i r hi).2 l hl]
   exact h.sym i r hi l hl
  ·cases ht
end Go.Proofs.YtinfejpkjddbiaaDoor.Fn01
