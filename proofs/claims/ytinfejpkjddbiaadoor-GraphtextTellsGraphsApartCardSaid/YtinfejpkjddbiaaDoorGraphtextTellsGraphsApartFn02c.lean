/- Part of the proof of the law GraphtextTellsGraphsApart: Fn02c. -/
import Derived.Test.YtinfejpkjddbiaaDoorGraphtextTellsGraphsApartFn02b
namespace Go.Proofs.YtinfejpkjddbiaaDoor.Fn02
open Go.RowKit Go.Proofs.YtinfejpkjddbiaaDoor.P Go.Proofs.YtinfejpkjddbiaaDoorW.PrintWords Go.Proofs.YtinfejpkjddbiaaDoorW.PrintLast Go.Proofs.YtinfejpkjddbiaaDoorW.PrintMore Go.Proofs.YtinfejpkjddbiaaDoor.Fn01 Go.Proofs.YtinfejpkjddbiaaDoor.Math02
set_option linter.unusedVariables false
set_option linter.unusedSimpArgs false
set_option linter.unusedSectionVars false
def dg (n : Nat) : UInt8 := UInt8.ofNat (48 + n)
def dec (n : Nat) : List UInt8 := if n < 10 then [dg n] else if n < 100 then [dg (n / 10), dg (n % 10)] else [dg (n / 100), dg (n / 10 % 10), dg (n % 10)]
theorem dec_num : ∀ n < 256, numR (dec n) = ((n : Int), true) := by decide +kernel
theorem dec_len : ∀ n < 256, (dec n).length ≤ 3 := by decide +kernel
theorem dec_no (c : UInt8) (hc : c = 10 ∨ c = 32 ∨ c = 47) : ∀ n < 256, c ∉ dec n := by
 rcases hc with rfl | rfl | rfl
 ·have : ∀ n < 256, (dec n).all (fun x => x != 10) = true := by decide +kernel
  intro n hn hm;exact absurd (List.all_eq_true.1 (this n hn) _ hm) (by decide)
 ·have : ∀ n < 256, (dec n).all (fun x => x != 32) = true := by decide +kernel
  intro n hn hm;exact absurd (List.all_eq_true.1 (this n hn) _ hm) (by decide)
 ·have : ∀ n < 256, (dec n).all (fun x => x != 47) = true := by decide +kernel
  intro n hn hm;exact absurd (List.all_eq_true.1 (this n hn) _ hm) (by decide)
def sm (x : Int) : Prop := 0 ≤ x ∧ x < 256
def smL (l : S41) : Prop := sm l.f0 ∧ sm l.f1
def lkb (l : S41) : List UInt8 := dec l.f0.toNat ++ 47 :: dec l.f1.toNat
def lksB : Row → List UInt8
 | [] => []
 | l :: r => 32 :: (lkb l ++ lksB r)
def nodeB (id : Int) (r : Row) : List UInt8 := [110, 111, 100, 101] ++ 32 :: (dec id.toNat ++ lksB r)
theorem sm_nat {x : Int} (h : sm x) : x.toNat < 256 ∧ (x.toNat : Int) = x := ⟨by have := h.1; have := h.2; omega, by have := h.1; omega⟩
theorem lkb_no {l : S41} (h : smL l) (c : UInt8) (hc : c = 10 ∨ c = 32) : c ∉ lkb l := by
 have hc2 : c = 10 ∨ c = 32 ∨ c = 47 := by rcases hc with h | h <;> simp [h]
 intro hm;rcases List.mem_append.1 hm with hm | hm
 ·exact dec_no c hc2 _ (sm_nat h.1).1 hm
 ·rcases List.mem_cons.1 hm with hm | hm
  ·subst hm; rcases hc with h | h <;> cases h
  ·exact dec_no c hc2 _ (sm_nat h.2).1 hm
theorem lkb_len {l : S41} (h : smL l) : (lkb l).length ≤ 7 := by
 have := dec_len _ (sm_nat h.1).1
 have := dec_len _ (sm_nat h.2).1
 unfold lkb
 rw [List.length_append, List.length_cons]; omega
theorem linkR_lkb {l : S41} (h : smL l) : linkR (lkb l) = some l := by
 unfold linkR lkb
 rw [sp_app _ (dec_no 47 (by simp) _ (sm_nat h.1).1), sp_none (dec_no 47 (by simp) _ (sm_nat h.2).1)]
 simp only [dec_num _ (sm_nat h.1).1, dec_num _ (sm_nat h.2).1, if_true];rw [(sm_nat h.1).2, (sm_nat h.2).2]
theorem sp_lks : ∀ (r : Row) (p : List UInt8), (∀ l ∈ r, smL l) → (32 : UInt8) ∉ p → sp 32 (p ++ lksB r) = p :: r.map lkb
 | [], p, hr, hp => by show sp 32 (p ++ []) = [p]; rw [List.append_nil, sp_none hp]
 | l :: r, p, hr, hp => by
  show sp 32 (p ++ 32 :: (lkb l ++ lksB r)) = _
  rw [sp_app _ hp, sp_lks r (lkb l) (fun x hx => hr x (by simp [hx])) (lkb_no (hr l (by simp)) 32 (by simp))]
  rfl
theorem linksR_lkb : ∀ (r : Row) (out : Row), (∀ l ∈ r, smL l) → linksR (r.map lkb) out = some (out ++ r)
 | [], out, h => by simp [linksR]
 | l :: r, out, h => by
  rw [List.map_cons, linksR, linkR_lkb (h l (by simp))]
  show linksR (r.map lkb) (out ++ [l]) = _
  rw [linksR_lkb r _ (fun x hx => h x (by simp [hx])), List.append_assoc]
  rfl
theorem lineR_node {id : Int} {r : Row} (hi : sm id) (hr : ∀ l ∈ r, smL l) : lineR (nodeB id r) = (id, r, true) := by
 unfold lineR nodeB
 rw [sp_app _ (by decide), sp_lks r _ hr (dec_no 32 (by simp) _ (sm_nat hi).1)]
 simp only [if_true, dec_num _ (sm_nat hi).1, linksR_lkb r [] hr, List.nil_append, (sm_nat hi).2]
theorem lks_no : ∀ (r : Row), (∀ l ∈ r, smL l) → (10 : UInt8) ∉ lksB r
 | [], h => by simp [lksB]
 | l :: r, h => by
  intro hm;rcases List.mem_cons.1 hm with hm | hm
  ·cases hm
  ·rcases List.mem_append.1 hm with hm | hm
   ·exact lkb_no (h l (by simp)) 10 (by simp) hm
   ·exact lks_no r (fun x hx => h x (by simp [hx])) hm
theorem node_no {id : Int} {r : Row} (hi : sm id) (hr : ∀ l ∈ r, smL l) : (10 : UInt8) ∉ nodeB id r := by
 intro hm;rcases List.mem_append.1 hm with hm | hm
 ·revert hm; decide
 ·rcases List.mem_cons.1 hm with hm | hm
  ·cases hm
  ·rcases List.mem_append.1 hm with hm | hm
   ·exact dec_no 10 (by simp) _ (sm_nat hi).1 hm
   ·exact lks_no r hr hm
theorem lks_len : ∀ (r : Row), (∀ l ∈ r, smL l) → (lksB r).length ≤ 8 * r.length
 | [], h => by simp [lksB]
 | l :: r, h => by
  have := lks_len r (fun x hx => h x (by simp [hx]))
  have := lkb_len (h l (by simp))
  show (32 :: (lkb l ++ lksB r)).length ≤ _
  rw [List.length_cons, List.length_append, List.length_cons]; omega
theorem node_len {id : Int} {r : Row} (hi : sm id) (hr : ∀ l ∈ r, smL l) : (nodeB id r).length ≤ 8 + 8 * r.length := by
 have := dec_len _ (sm_nat hi).1
 have := lks_len r hr
 unfold nodeB
 simp only [List.length_append, List.length_cons, List.length_nil]; omega
def textB : List (List UInt8) → List UInt8
 | [] => []
 | s :: r => s ++ 10 :: textB r
theorem sp_text : ∀ (ws : List (List UInt8)), (∀ s ∈ ws, (10 : UInt8) ∉ s) → sp 10 (textB ws) = ws ++ [[]]
 | [], h => rfl
 | s :: r, h => by
  show sp 10 (s ++ 10 :: textB r) = _
  rw [sp_app _ (h s (by simp)), sp_text r (fun x hx => h x (by simp [hx]))]
  rfl
theorem textB_ends : ∀ (ws : List (List UInt8)), ws ≠ [] → ∃ l, textB ws = l ++ [10]
 | [], h => absurd rfl h
 | [s], h => ⟨s, rfl⟩
 | s :: t :: r, h => by
  obtain ⟨l, hl⟩ := textB_ends (t :: r) (by simp)
  exact ⟨s ++ 10 :: l, by show s ++ 10 :: textB (t :: r) = _; rw [hl]; simp⟩
theorem lines_text {ws : List (List UInt8)} (hne : ws ≠ []) (h : ∀ s ∈ ws, (10 : UInt8) ∉ s) : linesR (textB ws) = ws := by
 obtain ⟨l, hl⟩ := textB_ends ws hne
 have := sp_text ws h
 rw [hl, sp_snoc] at this
 rw [hl, linesR_snoc]
 exact List.append_cancel_right this
theorem text_len : ∀ (ws : List (List UInt8)) (c : Nat), (∀ s ∈ ws, s.length ≤ c) → (textB ws).length ≤ (c + 1) * ws.length
 | [], c, h => by simp [textB]
 | s :: r, c, h => by
  have := text_len r c (fun x hx => h x (by simp [hx]))
  have := h s (by simp)
  show (s ++ 10 :: textB r).length ≤ _
  rw [List.length_append, List.length_cons, List.length_cons, Nat.mul_succ]; omega
def nodesB (ids : List Int) (ps : List Row) : List (List UInt8) := List.zipWith nodeB ids ps
structure Small (ids : List Int) (ps : List Row) : Prop where
 len : ids.length = ps.length
 n1 : 1 ≤ ps.length
 n2 : ps.length ≤ 24
 i : ∀ x ∈ ids, sm x
 r : ∀ r ∈ ps, r.length ≤ 23 ∧ ∀ l ∈ r, smL l
theorem few_links2 {n v : Nat} {r : Row} (hv : v < n) (h : Links n v r) : r.length < n := by
 have h1 := few n ((v : Int) :: r.map (·.f0)) (List.nodup_cons.2 ⟨fun hm => by
  obtain ⟨l, hl, he⟩ := List.mem_map.1 hm
  exact (h.1 l hl).2.1 he, h.2⟩) (fun x hx => by
  rcases List.mem_cons.1 hx with rfl | hx
  ·omega
  ·obtain ⟨l, hl, rfl⟩ := List.mem_map.1 hx
   exact (h.1 l hl).1)
 simp only [List.length_cons, List.length_map] at h1
 omega
theorem small {ids : List Int} {ps : List Row} (h : VG ids ps) : Small ids ps := by
 refine ⟨h.len, h.n1, h.n2, fun x hx => ⟨(h.rng x hx).1, by have := (h.rng x hx).2; omega⟩, fun r hr => ?_⟩
 obtain ⟨i, hi, rfl⟩ := List.getElem_of_mem hr
 have hL := h.lnk i ps[i] (List.getElem?_eq_getElem hi)
 have hn := h.n2
 refine ⟨?_, fun l hl => ?_⟩
 ·have := few_links2 hi hL
  omega
 ·obtain ⟨⟨a, b⟩, _, c, d⟩ := hL.1 l hl
  exact ⟨⟨a, by omega⟩, ⟨by omega, by omega⟩⟩
theorem nodes_all {ids : List Int} {ps : List Row} (h : Small ids ps) : ∀ s ∈ nodesB ids ps, ∃ id r, s = nodeB id r ∧ sm id ∧ r.length ≤ 23 ∧ ∀ l ∈ r, smL l := by
 intro s hs;obtain ⟨i, hi, rfl⟩ := List.getElem_of_mem hs
 unfold nodesB at hi ⊢
 rw [List.length_zipWith] at hi
 rw [List.getElem_zipWith]
 exact ⟨_, _, rfl, h.i _ (List.getElem_mem _), (h.r _ (List.getElem_mem _)).1, (h.r _ (List.getElem_mem _)).2⟩
theorem nodes_len {ids : List Int} {ps : List Row} (h : Small ids ps) : (nodesB ids ps).length = ps.length := by unfold nodesB; rw [List.length_zipWith, h.len, Nat.min_self]
theorem nodes_no {ids : List Int} {ps : List Row} (h : Small ids ps) : ∀ s ∈ nodesB ids ps, (10 : UInt8) ∉ s := fun s hs => by
 obtain ⟨id, r, rfl, a, b, c⟩ := nodes_all h s hs
 exact node_no a c
theorem nodes_size {ids : List Int} {ps : List Row} (h : Small ids ps) : ∀ s ∈ nodesB ids ps, s.length ≤ 192 ∧ s ≠ [] := fun s hs => by
 obtain ⟨id, r, rfl, a, b, c⟩ := nodes_all h s hs
 have := node_len a c
 exact ⟨by omega, by simp [nodeB]⟩
theorem parseR_nodes : ∀ (ids : List Int) (ps : List Row) (i : Nat) (ia : List Int) (pa : List Row), ids.length = ps.length → (∀ x ∈ ids, sm x) → (∀ r ∈ ps, ∀ l ∈ r, smL l) → parseR (nodesB ids ps) i ia pa = finR (ia ++ ids) (pa ++ ps)
 | [], [], i, ia, pa, hl, hi, hr => by simp [nodesB, parseR]
 | [], _ :: _, i, ia, pa, hl, hi, hr => by simp at hl
 | _ :: _, [], i, ia, pa, hl, hi, hr => by simp at hl
 | x :: ids, r :: ps, i, ia, pa, hl, hi, hr => by
  show parseR (nodeB x r :: nodesB ids ps) i ia pa = _
  rw [parseR, lineR_node (hi x (by simp)) (hr r (by simp)), if_pos rfl, parseR_nodes ids ps _ _ _ (by simpa using hl) (fun y hy => hi y (by simp [hy])) (fun y hy => hr y (by simp [hy]))]
  simp
theorem parseR_graph {ids : List Int} {ps : List Row} (h : VG ids ps) : parseR (nodesB ids ps) 0 [] [] = (ids, ps, 0, 0) := by
 have s := small h
 rw [parseR_nodes ids ps 0 [] [] s.len s.i (fun r hr => (s.r r hr).2)]
 unfold finR
 rw [List.nil_append, List.nil_append, if_pos ((val_iff _ _).2 h)]
end Go.Proofs.YtinfejpkjddbiaaDoor.Fn02
