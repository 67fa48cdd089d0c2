/- Part of the proof of the law GraphtextWritesBack: Fn01b. -/
import Derived.Test.YtinfejpkjddbiaaDoorGraphtextWritesBackFn01
namespace Go.Proofs.YtinfejpkjddbiaaDoor.Fn01
open Go.RowKit Go.Proofs.YtinfejpkjddbiaaDoor.P Go.Proofs.YtinfejpkjddbiaaDoorW.PrintWords Go.Proofs.YtinfejpkjddbiaaDoorW.PrintLast Go.Proofs.YtinfejpkjddbiaaDoorW.PrintMore Go.Proofs.YtinfejpkjddbiaaDoor.Mp
set_option linter.unusedVariables false
set_option linter.unusedSimpArgs false
def Says (g : Nat → Option Bool) (P : Prop) : Prop := ∃ b, Ev g b ∧ (b = true ↔ P)
theorem Says.step {f g : Nat → Option Bool} {P : Prop} (h : ∀ k, f (k + 1) = g k) (hg : Says g P) : Says f P := by obtain ⟨b, hb, hp⟩ := hg; exact ⟨b, Ev.step h hb, hp⟩
theorem Says.iff {g : Nat → Option Bool} {P Q : Prop} (hg : Says g P) (h : P ↔ Q) : Says g Q := by obtain ⟨b, hb, hp⟩ := hg; exact ⟨b, hb, hp.trans h⟩
theorem Says.no {P : Prop} (h : ¬ P) : Says (fun _ => some false) P := ⟨false, Ev.now _, by simp [h]⟩
theorem Says.yes {P : Prop} (h : P) : Says (fun _ => some true) P := ⟨true, Ev.now _, by simp [h]⟩
theorem Says.pos {c : Prop} [Decidable c] {g h : Nat → Option Bool} {P : Prop} (hc : c) (hg : Says g P) : Says (fun k => if c then g k else h k) P := by obtain ⟨b, hb, hp⟩ := hg; exact ⟨b, Pv.pos hc hb, hp⟩
theorem Says.neg {c : Prop} [Decidable c] {g h : Nat → Option Bool} {P : Prop} (hc : ¬ c) (hg : Says h P) : Says (fun k => if c then g k else h k) P := by obtain ⟨b, hb, hp⟩ := hg; exact ⟨b, Pv.neg hc hb, hp⟩
theorem Says.bind {β : Type} {g : Nat → Option β} {x : β} {f : Nat → β → Option Bool} {P : Prop} (hg : Ev g x) (h : Says (fun k => f k x) P) : Says (fun k => (g k).bind (f k)) P := by obtain ⟨b, hb, hp⟩ := h; exact ⟨b, Ev.bind hg hb, hp⟩
theorem Says.cbind {β : Type} {g : Option β} {x : β} {f : Nat → β → Option Bool} {P : Prop} (hg : g = some x) (h : Says (fun k => f k x) P) : Says (fun k => g.bind (f k)) P := by subst hg; exact h
theorem Says.now {g : Option Bool} {b : Bool} {P : Prop} (hg : g = some b) (h : b = true ↔ P) : Says (fun _ => g) P := ⟨b, Pv.const hg, h⟩
theorem in_eq (a b c : Int) : selfstabref01_In.f a b c = some (decide (b ≤ a ∧ a ≤ c)) := by
 unfold selfstabref01_In.f
 by_cases h : a ≥ b
 ·rw [if_pos h]; congr 1; exact decide_eq_decide.2 ⟨fun h2 => ⟨h, h2⟩, fun h2 => h2.2⟩
 ·rw [if_neg h, decide_eq_false (fun h2 => h h2.1)]
theorem rdL {r : Row} {i : Nat} (h : i < r.length) : rd_T41 r (i : Int) = r[i] := by
 unfold rd_T41; rw [Int.toNat_natCast, List.getD_eq_getElem?_getD, List.getElem?_eq_getElem h]; rfl
theorem rdI {r : List Int} {i : Nat} (h : i < r.length) : rd r (i : Int) = r[i] := by
 unfold rd; rw [Int.toNat_natCast, List.getD_eq_getElem?_getD, List.getElem?_eq_getElem h]; rfl
theorem rdR {r : List Row} {i : Nat} (h : i < r.length) : rd_L3 r (i : Int) = r[i] := by
 unfold rd_L3; rw [Int.toNat_natCast, List.getD_eq_getElem?_getD, List.getElem?_eq_getElem h]; rfl
theorem w1 {i : Nat} (h : i < 9000000000000000000) : wrap64 ((i : Int) + 1) = ((i + 1 : Nat) : Int) := by rw [Pv.w64 (by omega) (by omega)]; omega
section
variable {n v : Nat} (hn : n ≤ 100)
theorem links_l1 (r : Row) (hr : r.length ≤ 1000000) {i : Nat} (hi : i < r.length) {P : Prop} (hnext : Says (fun k => selfstabref01_linksValid.l0 k r (v : Int) (n : Int) ((i + 1 : Nat) : Int)) P) :
  ∀ (m j : Nat), j + m = i → Says (fun k => selfstabref01_linksValid.l1 k r (v : Int) (n : Int) (i : Int) (j : Int)) ((∀ q, j ≤ q → (hq : q < i) → (r[q]'(by omega)).f0 ≠ (r[i]).f0) ∧ P) := by
 intro m;induction m with
 | zero =>
  intro j hj;refine Says.step (fun k => by simp only [selfstabref01_linksValid.l1]; rfl) (Says.neg (by omega) ?_)
  rw [w1 (by omega)]
  exact hnext.iff ⟨fun h => ⟨fun q h1 h2 => by omega, h⟩, fun h => h.2⟩
 | succ m ih =>
  intro j hj;refine Says.step (fun k => by simp only [selfstabref01_linksValid.l1]; rfl) (Says.pos (by omega) (Says.pos (by omega) (Says.pos (by omega) (Says.pos (by omega) (Says.pos (by omega) ?_)))))
  rw [rdL (show j < r.length by omega), rdL hi]
  by_cases he : (r[j]'(by omega)).f0 = (r[i]).f0
  ·exact Says.pos he (Says.no (fun h => h.1 j (Nat.le_refl _) (by omega) he))
  ·refine Says.neg he ?_
   rw [w1 (by omega)]
   refine (ih (j + 1) (by omega)).iff ⟨fun h => ⟨fun q h1 h2 => ?_, h.2⟩, fun h => ⟨fun q h1 h2 => h.1 q (by omega) h2, h.2⟩⟩
   by_cases hqj : q = j
   ·subst hqj; exact he
   ·exact h.1 q (by omega) h2
include hn in
theorem links_l0 (r : Row) (hr : r.length ≤ 1000000) : ∀ (m i : Nat), i + m = r.length →
  Says (fun k => selfstabref01_linksValid.l0 k r (v : Int) (n : Int) (i : Int)) (∀ p, i ≤ p → (hp : p < r.length) → okL n v r[p] ∧ ∀ q, (hq : q < p) → (r[q]'(by omega)).f0 ≠ (r[p]).f0) := by
 intro m;induction m with
 | zero =>
  intro i hi;exact Says.step (fun k => by simp only [selfstabref01_linksValid.l0]; rfl) (Says.neg (by omega) (Says.yes (fun p h1 h2 => by omega)))
 | succ m ih =>
  intro i hi;have hlt : i < r.length := by omega
  have out : Says (fun k => selfstabref01_linksValid.j1 k r (v : Int) (n : Int) (i : Int) true) False := Says.step (fun k => by simp only [selfstabref01_linksValid.j1]; rfl) (Says.pos (by trivial) (Says.no (by simp)))
  refine Says.step (fun k => by simp only [selfstabref01_linksValid.l0]; rfl) (Says.pos (by omega) (Says.pos (by omega) ?_))
  rw [rdL hlt, Pv.w64 (x := (n : Int) - 1) (by omega) (by omega)]
  refine Says.cbind (in_eq _ _ _) ?_
  by_cases h1 : 0 ≤ (r[i]).f0 ∧ (r[i]).f0 ≤ (n : Int) - 1
  case neg =>
   rw [decide_eq_false h1]
   exact Says.neg (by decide) (out.iff ⟨fun h => h.elim, fun h => by have := (h i (Nat.le_refl _) hlt).1.1; exact h1 ⟨this.1, by omega⟩⟩)
  rw [decide_eq_true h1]
  refine Says.pos rfl ?_
  by_cases h2 : (r[i]).f0 = (v : Int)
  ·exact Says.pos h2 (out.iff ⟨fun h => h.elim, fun h => (h i (Nat.le_refl _) hlt).1.2.1 h2⟩)
  refine Says.neg h2 (Says.cbind (in_eq _ _ _) ?_)
  by_cases h3 : 1 ≤ (r[i]).f1 ∧ (r[i]).f1 ≤ 15
  case neg =>
   rw [decide_eq_false h3]
   exact out.iff ⟨fun h => h.elim, fun h => h3 (h i (Nat.le_refl _) hlt).1.2.2⟩
  rw [decide_eq_true h3]
  refine Says.step (fun k => by simp only [selfstabref01_linksValid.j1]; rfl) (Says.neg (by decide) ?_)
  refine (links_l1 (n := n) (v := v) r hr hlt (ih (i + 1) (by omega)) i 0 (by omega)).iff ⟨fun h p hp1 hp2 => ?_, fun h => ⟨fun q _ hq => (h i (Nat.le_refl _) hlt).2 q hq, fun p hp1 hp2 => h p (by omega) hp2⟩⟩
  by_cases hpi : p = i
  ·subst hpi;exact ⟨⟨⟨h1.1, by omega⟩, h2, h3⟩, fun q hq => h.1 q (by omega) hq⟩
  ·exact h.2 p (by omega) hp2
include hn in
theorem links_says (r : Row) (hr : r.length ≤ 1000000) : Says (fun k => selfstabref01_linksValid.f k r (v : Int) (n : Int)) (Links n v r) := by
 refine (links_l0 hn r hr r.length 0 (by omega)).iff ⟨fun h => ⟨fun l hl => ?_, ?_⟩, fun h p _ hp => ⟨h.1 _ (List.getElem_mem hp), fun q hq e => ?_⟩⟩
 ·obtain ⟨p, hp, rfl⟩ := List.mem_iff_getElem.1 hl
  exact (h p (by omega) hp).1
 ·rw [List.Nodup, List.pairwise_iff_getElem]
  intro i j hi hj hij;rw [List.length_map] at hi hj
  rw [List.getElem_map, List.getElem_map]
  exact (h j (by omega) hj).2 i hij
 ·have hnd := h.2
  rw [List.Nodup, List.pairwise_iff_getElem] at hnd
  have := hnd q p (by rw [List.length_map]; omega) (by rw [List.length_map]; omega) hq
  rw [List.getElem_map, List.getElem_map] at this
  exact this e
end
theorem port_l0 (ids : List Int) (ps : List Row) {u : Nat} (hu : u < ps.length) (y : Int) (hr : (ps[u]).length ≤ 1000000) : ∀ (m i : Nat) (hi : i + m = (ps[u]).length), (∀ q, (hq : q < i) → ((ps[u])[q]'(by omega)).f0 ≠ y) →
  ∃ p, Ev (fun k => selfstabref01_Port.l0 k (u : Int) y (i : Int) ids ps) p ∧ ((p = -1 ∧ ∀ l ∈ ps[u], l.f0 ≠ y) ∨ ∃ j : Nat, p = (j : Int) ∧ ∃ hj : j < (ps[u]).length, ((ps[u])[j]).f1 = wt ps[u] y ∧ ((ps[u])[j]).f0 = y) := by
 intro m;induction m with
 | zero =>
  intro i hi hq;refine ⟨-1, Ev.step (fun k => by simp only [selfstabref01_Port.l0]; rfl) (Pv.pos (by omega) (Pv.pos (by omega) ?_)), Or.inl ⟨rfl, fun l hl => ?_⟩⟩
  ·rw [rdR hu]; exact Pv.neg (by omega) (Ev.now _)
  ·obtain ⟨p, hp, rfl⟩ := List.mem_iff_getElem.1 hl
   exact hq p (by omega)
 | succ m ih =>
  intro i hi hq;have hlt : i < (ps[u]).length := by omega
  by_cases he : ((ps[u])[i]).f0 = y
  ·refine ⟨(i : Int), Ev.step (fun k => by simp only [selfstabref01_Port.l0]; rfl) (Pv.pos (by omega) (Pv.pos (by omega) ?_)), Or.inr ⟨i, rfl, hlt, ?_, he⟩⟩
   ·rw [rdR hu, rdL hlt]
    exact Pv.pos (by omega) (Pv.pos (by omega) (Pv.pos he (Ev.now _)))
   ·have key : ∀ (r : Row) (i : Nat) (h : i < r.length), (r[i]).f0 = y → (∀ q, (hq : q < i) → (r[q]'(by omega)).f0 ≠ y) → (r[i]).f1 = wt r y := by
     intro r;induction r with
     | nil => intro i h; simp at h
     | cons a r ihr =>
      intro i h h1 h2;cases i with
      | zero => rw [wt]; simp only [List.getElem_cons_zero] at h1 ⊢; rw [if_pos h1]
      | succ i =>
       have h3 := h2 0 (by omega)
       simp only [List.getElem_cons_zero] at h3
       rw [wt, if_neg h3]
       simp only [List.getElem_cons_succ] at h1 ⊢
       exact ihr i (by simpa using h) h1 (fun q hq => by have := h2 (q + 1) (by omega); simpa using this)
    exact key _ i hlt he hq
  ·obtain ⟨p, hp, hq2⟩ := ih (i + 1) (by omega) (fun q hq1 => by
    by_cases e : q = i
    ·subst e; exact he
    ·exact hq q (by omega))
   refine ⟨p, Ev.step (fun k => by simp only [selfstabref01_Port.l0]; rfl) (Pv.pos (by omega) (Pv.pos (by omega) ?_)), hq2⟩
   rw [rdR hu, rdL hlt, w1 (by omega)]
   exact Pv.pos (by omega) (Pv.pos (by omega) (Pv.neg he hp))
def SymAt (ps : List Row) (i p : Nat) : Prop := ∀ (hi : i < ps.length) (hp : p < (ps[i]).length), wt (ps.getD ((ps[i])[p]).f0.toNat []) i = ((ps[i])[p]).f1
def At (ids : List Int) (ps : List Row) (i : Nat) : Prop := ∀ (h1 : i < ids.length) (h2 : i < ps.length), (0 ≤ ids[i] ∧ ids[i] ≤ 255) ∧ Links ps.length i ps[i] ∧ ∀ q, (hq : q < i) → ids[q]'(by omega) ≠ ids[i]
theorem few : ∀ (n : Nat) (l : List Int), l.Nodup → (∀ x ∈ l, 0 ≤ x ∧ x < n) → l.length ≤ n := by
 intro n;induction n with
 | zero =>
  intro l _ h;cases l with
  | nil => simp
  | cons a l => have := h a (by simp); omega
 | succ n ih =>
  intro l hn h;by_cases hm : (n : Int) ∈ l
  ·have h1 : (l.erase (n : Int)).Nodup := hn.erase _
   have h2 := ih (l.erase (n : Int)) h1 (fun x hx => by
    have h3 := (hn.mem_erase_iff).1 hx
    have := h x h3.2
    have := h3.1
    omega)
   have h3 := List.length_erase_of_mem hm
   have h4 : 0 < l.length := List.length_pos_of_mem hm
   omega
  ·have := ih l hn (fun x hx => by
    have h3 := h x hx
    have : x ≠ n := fun e => hm (e ▸ hx)
    omega)
   omega
set_option linter.unusedSectionVars false
section
variable (ids : List Int) (ps : List Row) (hn : ps.length ≤ 24) (hlen : ids.length = ps.length) (hlr : ∀ r ∈ ps, r.length ≤ 1000000)
include hn hlr
theorem sym_l3 (lnk : ∀ (i : Nat) r, ps[i]? = some r → Links ps.length i r) {i : Nat} (hi : i < ps.length) {P : Prop} (hnext : Says (fun k => selfstabref01_Valid.l2 k (ps.length : Int) ((i + 1 : Nat) : Int) ids ps) P) :
  ∀ (m p : Nat), p + m = (ps[i]).length → Says (fun k => selfstabref01_Valid.l3 k (ps.length : Int) (i : Int) (p : Int) ids ps) ((∀ q, p ≤ q → SymAt ps i q) ∧ P) := by
 have hrl := hlr _ (List.getElem_mem hi)
 intro m;induction m with
 | zero =>
  intro p hp;refine Says.step (fun k => by simp only [selfstabref01_Valid.l3]; rfl) (Says.pos (by omega) (Says.pos (by omega) ?_))
  rw [rdR hi]
  refine Says.neg (by omega) ?_
  rw [w1 (by omega)]
  exact hnext.iff ⟨fun h => ⟨fun q h1 h2 h3 => by omega, h⟩, fun h => h.2⟩
 | succ m ih =>
  intro p hp;have hlt : p < (ps[i]).length := by omega
  have ok := (lnk i _ (List.getElem?_eq_getElem hi)).1 _ (List.getElem_mem hlt)
  obtain ⟨u, hu⟩ := Int.eq_ofNat_of_zero_le ok.1.1
  have hup : u < ps.length := by have := ok.1.2; omega
  obtain ⟨pt, hpt, hcase⟩ := port_l0 ids ps hup (i : Int) (hlr _ (List.getElem_mem hup)) (ps[u]).length 0 (by omega) (fun q hq => by omega)
  have hgd : ps.getD ((ps[i])[p]).f0.toNat [] = ps[u] := by rw [hu, Int.toNat_natCast, List.getD_eq_getElem?_getD, List.getElem?_eq_getElem hup]; rfl
  refine Says.step (fun k => by simp only [selfstabref01_Valid.l3]; rfl) (Says.pos (by omega) (Says.pos (by omega) ?_))
  rw [rdR hi, rdL hlt]
  refine Says.pos (by omega) (Says.pos (by omega) ?_)
  rw [hu]
  refine Says.bind hpt ?_
  rcases hcase with ⟨rfl, hno⟩ | ⟨j, rfl, hj, hw, h0⟩
  ·refine Says.pos (by decide) (Says.no (fun h => ?_))
   have := h.1 p (Nat.le_refl _) hi hlt
   rw [hgd, wt_not hno] at this
   have := ok.2.2.1; omega
  ·refine Says.neg (by omega) (Says.pos (by omega) (Says.pos (by omega) (Says.pos (by omega) ?_)))
   rw [rdR hup, rdL hj]
   refine Says.pos (by omega) ?_
   have hs : SymAt ps i p ↔ ((ps[u])[j]).f1 = ((ps[i])[p]).f1 := by
    constructor
    ·intro h; have := h hi hlt; rw [hgd] at this; rw [hw]; exact this
    ·intro h _ _; rw [hgd, ← hw]; exact h
   by_cases he : ((ps[u])[j]).f1 = ((ps[i])[p]).f1
   ·refine Says.pos he ?_
    rw [w1 (by omega)]
    refine (ih (p + 1) (by omega)).iff ⟨fun h => ⟨fun q hq => ?_, h.2⟩, fun h => ⟨fun q hq => h.1 q (by omega), h.2⟩⟩
    by_cases e : q = p
    ·subst e; exact hs.2 he
    ·exact h.1 q (by omega)
   ·exact Says.neg he (Says.no (fun h => he (hs.1 (h.1 p (Nat.le_refl _)))))
theorem sym_l2 (lnk : ∀ (i : Nat) r, ps[i]? = some r → Links ps.length i r) : ∀ (m i : Nat), i + m = ps.length → Says (fun k => selfstabref01_Valid.l2 k (ps.length : Int) (i : Int) ids ps) (∀ q, i ≤ q → ∀ p, SymAt ps q p) := by
 intro m;induction m with
 | zero =>
  intro i hi;exact Says.step (fun k => by simp only [selfstabref01_Valid.l2]; rfl) (Says.neg (by omega) (Says.yes (fun q hq p h1 _ => by omega)))
 | succ m ih =>
  intro i hi;refine Says.step (fun k => by simp only [selfstabref01_Valid.l2]; rfl) (Says.pos (by omega) ?_)
  refine (sym_l3 ids ps hn hlr lnk (i := i) (by omega) (ih (i + 1) (by omega)) (ps[i]'(by omega)).length 0 (by omega)).iff ⟨fun h q hq p => ?_, fun h => ⟨fun q _ => h i (Nat.le_refl _) q, fun q hq => h q (by omega)⟩⟩
  by_cases e : q = i
  ·subst e; exact h.1 p (by omega)
  ·exact h.2 q (by omega) p
include hlen
theorem dif_l1 {i : Nat} (hi : i < ps.length) {P : Prop} (hnext : Says (fun k => selfstabref01_Valid.l0 k (ps.length : Int) ((i + 1 : Nat) : Int) ids ps) P) : ∀ (m j : Nat), j + m = i →
  Says (fun k => selfstabref01_Valid.l1 k (ps.length : Int) (i : Int) (j : Int) ids ps) ((∀ q, j ≤ q → (hq : q < i) → ids[q]'(by omega) ≠ ids[i]'(by omega)) ∧ P) := by
 intro m;induction m with
 | zero =>
  intro j hj;refine Says.step (fun k => by simp only [selfstabref01_Valid.l1]; rfl) (Says.neg (by omega) ?_)
  rw [w1 (by omega)]
  exact hnext.iff ⟨fun h => ⟨fun q h1 h2 => by omega, h⟩, fun h => h.2⟩
 | succ m ih =>
  intro j hj;refine Says.step (fun k => by simp only [selfstabref01_Valid.l1]; rfl) (Says.pos (by omega) (Says.pos (by omega) (Says.pos (by omega) (Says.pos (by omega) (Says.pos (by omega) ?_)))))
  rw [rdI (show j < ids.length by omega), rdI (show i < ids.length by omega)]
  by_cases he : ids[j]'(by omega) = ids[i]'(by omega)
  ·exact Says.pos he (Says.no (fun h => h.1 j (Nat.le_refl _) (by omega) he))
  ·refine Says.neg he ?_
   rw [w1 (by omega)]
   refine (ih (j + 1) (by omega)).iff ⟨fun h => ⟨fun q h1 h2 => ?_, h.2⟩, fun h => ⟨fun q h1 h2 => h.1 q (by omega) h2, h.2⟩⟩
   by_cases hqj : q = j
   ·subst hqj; exact he
   ·exact h.1 q (by omega) h2
theorem few_links {v : Nat} {r : Row} (hv : v < ps.length) (h : Links ps.length v r) : r.length < ps.length := by
 have h1 := few ps.length ((v : Int) :: r.map (·.f0)) (List.nodup_cons.2 ⟨fun hm => by
  obtain ⟨l, hl, he⟩ := List.mem_map.1 hm
  exact (h.1 l hl).2.1 he, h.2⟩) (fun x hx => by
  rcases List.mem_cons.1 hx with rfl | hx
  ·omega
  ·obtain ⟨l, hl, rfl⟩ := List.mem_map.1 hx
   exact (h.1 l hl).1)
 simp only [List.length_cons, List.length_map] at h1
 omega
theorem valid_l0 : ∀ (m i : Nat), i + m = ps.length → (∀ q, q < i → At ids ps q) → Says (fun k => selfstabref01_Valid.l0 k (ps.length : Int) (i : Int) ids ps) ((∀ q, i ≤ q → At ids ps q) ∧ ∀ q p, SymAt ps q p) := by
 intro m;induction m with
 | zero =>
  intro i hi hq;refine Says.step (fun k => by simp only [selfstabref01_Valid.l0]; rfl) (Says.neg (by omega) ?_)
  have lnk : ∀ (i : Nat) r, ps[i]? = some r → Links ps.length i r := fun j r hj => by
   obtain ⟨h1, h2⟩ := List.getElem?_eq_some_iff.1 hj
   have := (hq j (by omega) (by omega) h1).2.1
   rwa [h2] at this
  exact (sym_l2 ids ps hn hlr lnk ps.length 0 (by omega)).iff ⟨fun h => ⟨fun q hq1 h1 h2 => by omega, fun q p => h q (by omega) p⟩, fun h q _ p => h.2 q p⟩
 | succ m ih =>
  intro i hi hq;have h1 : i < ids.length := by omega
  have h2 : i < ps.length := by omega
  have out : Says (fun k => selfstabref01_Valid.j2 k (ps.length : Int) (i : Int) true ids ps) False := Says.step (fun k => by simp only [selfstabref01_Valid.j2]; rfl) (Says.pos (by trivial) (Says.no (by simp)))
  refine Says.step (fun k => by simp only [selfstabref01_Valid.l0]; rfl) (Says.pos (by omega) (Says.pos (by omega) (Says.pos (by omega) ?_)))
  rw [rdI h1]
  refine Says.cbind (in_eq _ _ _) ?_
  by_cases hr : 0 ≤ ids[i] ∧ ids[i] ≤ 255
  case neg =>
   rw [decide_eq_false hr]
   exact Says.neg (by decide) (out.iff ⟨fun h => h.elim, fun h => hr (h.1 i (Nat.le_refl _) h1 h2).1⟩)
  rw [decide_eq_true hr]
  refine Says.pos rfl (Says.pos (by omega) ?_)
  rw [rdR h2]
  by_cases hl : ((ps[i]).length : Int) ≥ (ps.length : Int)
  ·refine Says.pos hl (out.iff ⟨fun h => h.elim, fun h => ?_⟩)
   have := few_links ids ps hn hlen hlr h2 (h.1 i (Nat.le_refl _) h1 h2).2.1
   omega
  refine Says.neg hl ?_
  obtain ⟨b, hb, hbl⟩ := links_says (n := ps.length) (v := i) (by omega) ps[i] (by omega)
  refine Says.bind hb ?_
  cases b with
  | false => exact out.iff ⟨fun h => h.elim, fun h => absurd (hbl.2 (h.1 i (Nat.le_refl _) h1 h2).2.1) (by decide)⟩
  | true =>
   refine Says.step (fun k => by simp only [selfstabref01_Valid.j2]; rfl) (Says.neg (by decide) ?_)
   by_cases hd : ∀ q, (hq : q < i) → ids[q]'(by omega) ≠ ids[i]
   ·have hat : At ids ps i := fun _ _ => ⟨hr, hbl.1 rfl, hd⟩
    refine (dif_l1 ids ps hn hlen hlr h2 (ih (i + 1) (by omega) (fun q hq1 => by
     by_cases e : q = i
     ·subst e; exact hat
     ·exact hq q (by omega))) i 0 (by omega)).iff ⟨fun h => ⟨fun q hq1 => ?_, h.2.2⟩, fun h => ⟨fun q _ hq1 => hd q hq1, fun q hq1 => h.1 q (by omega), h.2⟩⟩
    by_cases e : q = i
    ·subst e; exact hat
    ·exact h.2.1 q (by omega)
   ·
    have stop : ∀ (m j : Nat), j + m = i → (∃ q, j ≤ q ∧ ∃ hq : q < i, ids[q]'(by omega) = ids[i]) → Says (fun k => selfstabref01_Valid.l1 k (ps.length : Int) (i : Int) (j : Int) ids ps) False := by
     intro m;induction m with
     | zero => intro j hj ⟨q, h3, h4, _⟩; omega
     | succ m ihm =>
      intro j hj ⟨q, h3, h4, h5⟩
      refine Says.step (fun k => by simp only [selfstabref01_Valid.l1]; rfl) (Says.pos (by omega) (Says.pos (by omega) (Says.pos (by omega) (Says.pos (by omega) (Says.pos (by omega) ?_)))))
      rw [rdI (show j < ids.length by omega), rdI h1]
      by_cases he : ids[j]'(by omega) = ids[i]
      ·exact Says.pos he (Says.no (by simp))
      ·refine Says.neg he ?_
       rw [w1 (by omega)]
       refine ihm (j + 1) (by omega) ⟨q, ?_, h4, h5⟩
       by_cases e : q = j
       ·subst e; exact absurd h5 he
       ·omega
    refine (stop i 0 (by omega) ?_).iff ⟨fun h => h.elim, fun h => hd (h.1 i (Nat.le_refl _) h1 h2).2.2⟩
    exact Classical.byContradiction fun hc => hd (fun q hq1 e => hc ⟨q, by omega, hq1, e⟩)
end
theorem rvalid (ids : List Int) (ps : List Row) (hlr : ∀ r ∈ ps, r.length ≤ 1000000) : Says (fun k => selfstabref01_Valid.f k ids ps) (VG ids ps) := by
 have out : Says (fun k => selfstabref01_Valid.j0 k (ps.length : Int) true ids ps) False := Says.step (fun k => by simp only [selfstabref01_Valid.j0]; rfl) (Says.pos (by trivial) (Says.no (by simp)))
 refine Says.cbind (in_eq _ _ _) ?_
 by_cases h : 1 ≤ (ps.length : Int) ∧ (ps.length : Int) ≤ 24
 case neg =>
  rw [decide_eq_false h]
  exact Says.neg (by decide) (out.iff ⟨fun h => h.elim, fun hv => h ⟨by have := hv.n1; omega, by have := hv.n2; omega⟩⟩)
 rw [decide_eq_true h]
 refine Says.pos rfl ?_
 by_cases hlen : (ids.length : Int) = (ps.length : Int)
 case neg =>
  rw [bne_iff_ne.2 hlen]
  exact out.iff ⟨fun h => h.elim, fun hv => hlen (by have := hv.len; omega)⟩
 rw [bne_eq_false_iff_eq.2 hlen]
 refine Says.step (fun k => by simp only [selfstabref01_Valid.j0]; rfl) (Says.neg (by decide) ?_)
 have hl : ids.length = ps.length := by omega
 refine (valid_l0 ids ps (by omega) hl hlr ps.length 0 (by omega) (fun q hq => by omega)).iff ⟨fun hv => ?_, fun hv => ⟨fun q _ h1 h2 => ?_, fun q p h1 h2 => ?_⟩⟩
 ·refine ⟨by omega, by omega, hl, fun x hx => ?_, ?_, fun i r hi => ?_, fun i r hi l hlr2 => ?_⟩
  ·obtain ⟨p, hp, rfl⟩ := List.mem_iff_getElem.1 hx
   exact (hv.1 p (by omega) hp (by omega)).1
  ·rw [List.Nodup, List.pairwise_iff_getElem]
   intro i j hi hj hij;exact (hv.1 j (by omega) hj (by omega)).2.2 i hij
  ·obtain ⟨h1, rfl⟩ := List.getElem?_eq_some_iff.1 hi
   exact (hv.1 i (by omega) (by omega) h1).2.1
  ·obtain ⟨h1, rfl⟩ := List.getElem?_eq_some_iff.1 hi
   obtain ⟨p, hp, rfl⟩ := List.mem_iff_getElem.1 hlr2
   exact hv.2 i p h1 hp
 ·refine ⟨hv.rng _ (List.getElem_mem h1), hv.lnk q _ (List.getElem?_eq_getElem h2), fun p hp e => ?_⟩
  have hnd := hv.nod
  rw [List.Nodup, List.pairwise_iff_getElem] at hnd
  exact hnd p q (by omega) h1 hp e
 ·exact hv.sym q _ (List.getElem?_eq_getElem h1) _ (List.getElem_mem h2)
end Go.Proofs.YtinfejpkjddbiaaDoor.Fn01
