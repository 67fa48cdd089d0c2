/- Part of the proof of the law GraphtextWritesBack: Fn02c. -/
import Derived.Test.YtinfejpkjddbiaaDoorGraphtextWritesBackFn02b
namespace Go.Proofs.YtinfejpkjddbiaaDoor.Fn02
open Go.RowKit Go.Proofs.YtinfejpkjddbiaaDoor.P Go.Proofs.YtinfejpkjddbiaaDoorW.PrintWords Go.Proofs.YtinfejpkjddbiaaDoorW.PrintLast Go.Proofs.YtinfejpkjddbiaaDoorW.PrintMore Go.Proofs.YtinfejpkjddbiaaDoor.Fn01 Go.Proofs.YtinfejpkjddbiaaDoor.Math02
set_option linter.unusedVariables false
set_option linter.unusedSimpArgs false
set_option linter.unusedSectionVars false
def dg (n : Nat) : UInt8 := UInt8.ofNat (48 + n)
def dec (n : Nat) : List UInt8 := if n < 10 then [dg n] else if n < 100 then [dg (n / 10), dg (n % 10)] else [dg (n / 100), dg (n / 10 % 10), dg (n % 10)]
theorem dec_len : ∀ n < 256, (dec n).length ≤ 3 := by decide +kernel
def sm (x : Int) : Prop := 0 ≤ x ∧ x < 256
def smL (l : S41) : Prop := sm l.f0 ∧ sm l.f1
def lkb (l : S41) : List UInt8 := dec l.f0.toNat ++ 47 :: dec l.f1.toNat
def lksB : Row → List UInt8
 | [] => []
 | l :: r => 32 :: (lkb l ++ lksB r)
def nodeB (id : Int) (r : Row) : List UInt8 := [110, 111, 100, 101] ++ 32 :: (dec id.toNat ++ lksB r)
theorem sm_nat {x : Int} (h : sm x) : x.toNat < 256 ∧ (x.toNat : Int) = x := ⟨by have := h.1; have := h.2; omega, by have := h.1; omega⟩
theorem lkb_len {l : S41} (h : smL l) : (lkb l).length ≤ 7 := by
 have := dec_len _ (sm_nat h.1).1
 have := dec_len _ (sm_nat h.2).1
 unfold lkb
 rw [List.length_append, List.length_cons]; omega
theorem lks_len : ∀ (r : Row), (∀ l ∈ r, smL l) → (lksB r).length ≤ 8 * r.length
 | [], h => by simp [lksB]
 | l :: r, h => by
  have := lks_len r (fun x hx => h x (by simp [hx]))
  have := lkb_len (h l (by simp))
  show (32 :: (lkb l ++ lksB r)).length ≤ _
  rw [List.length_cons, List.length_append, List.length_cons]; omega
theorem node_len {id : Int} {r : Row} (hi : sm id) (hr : ∀ l ∈ r, smL l) : (nodeB id r).length ≤ 8 + 8 * r.length := by
 have := dec_len _ (sm_nat hi).1
 have := lks_len r hr
 unfold nodeB
 simp only [List.length_append, List.length_cons, List.length_nil]; omega
def textB : List (List UInt8) → List UInt8
 | [] => []
 | s :: r => s ++ 10 :: textB r
theorem text_len : ∀ (ws : List (List UInt8)) (c : Nat), (∀ s ∈ ws, s.length ≤ c) → (textB ws).length ≤ (c + 1) * ws.length
 | [], c, h => by simp [textB]
 | s :: r, c, h => by
  have := text_len r c (fun x hx => h x (by simp [hx]))
  have := h s (by simp)
  show (s ++ 10 :: textB r).length ≤ _
  rw [List.length_append, List.length_cons, List.length_cons, Nat.mul_succ]; omega
def nodesB (ids : List Int) (ps : List Row) : List (List UInt8) := List.zipWith nodeB ids ps
structure Small (ids : List Int) (ps : List Row) : Prop where
 len : ids.length = ps.length
 n1 : 1 ≤ ps.length
 n2 : ps.length ≤ 24
 i : ∀ x ∈ ids, sm x
 r : ∀ r ∈ ps, r.length ≤ 23 ∧ ∀ l ∈ r, smL l
theorem few_links2 {n v : Nat} {r : Row} (hv : v < n) (h : Links n v r) : r.length < n := by
 have h1 := few n ((v : Int) :: r.map (·.f0)) (List.nodup_cons.2 ⟨fun hm => by
  obtain ⟨l, hl, he⟩ := List.mem_map.1 hm
  exact (h.1 l hl).2.1 he, h.2⟩) (fun x hx => by
  rcases List.mem_cons.1 hx with rfl | hx
  ·omega
  ·obtain ⟨l, hl, rfl⟩ := List.mem_map.1 hx
   exact (h.1 l hl).1)
 simp only [List.length_cons, List.length_map] at h1
 omega
theorem small {ids : List Int} {ps : List Row} (h : VG ids ps) : Small ids ps := by
 refine ⟨h.len, h.n1, h.n2, fun x hx => ⟨(h.rng x hx).1, by have := (h.rng x hx).2; omega⟩, fun r hr => ?_⟩
 obtain ⟨i, hi, rfl⟩ := List.getElem_of_mem hr
 have hL := h.lnk i ps[i] (List.getElem?_eq_getElem hi)
 have hn := h.n2
 refine ⟨?_, fun l hl => ?_⟩
 ·have := few_links2 hi hL
  omega
 ·obtain ⟨⟨a, b⟩, _, c, d⟩ := hL.1 l hl
  exact ⟨⟨a, by omega⟩, ⟨by omega, by omega⟩⟩
theorem nodes_all {ids : List Int} {ps : List Row} (h : Small ids ps) : ∀ s ∈ nodesB ids ps, ∃ id r, s = nodeB id r ∧ sm id ∧ r.length ≤ 23 ∧ ∀ l ∈ r, smL l := by
 intro s hs;obtain ⟨i, hi, rfl⟩ := List.getElem_of_mem hs
 unfold nodesB at hi ⊢
 rw [List.length_zipWith] at hi
 rw [List.getElem_zipWith]
 exact ⟨_, _, rfl, h.i _ (List.getElem_mem _), (h.r _ (List.getElem_mem _)).1, (h.r _ (List.getElem_mem _)).2⟩
theorem nodes_len {ids : List Int} {ps : List Row} (h : Small ids ps) : (nodesB ids ps).length = ps.length := by unfold nodesB; rw [List.length_zipWith, h.len, Nat.min_self]
theorem nodes_size {ids : List Int} {ps : List Row} (h : Small ids ps) : ∀ s ∈ nodesB ids ps, s.length ≤ 192 ∧ s ≠ [] := fun s hs => by
 obtain ⟨id, r, rfl, a, b, c⟩ := nodes_all h s hs
 have := node_len a c
 exact ⟨by omega, by simp [nodeB]⟩
end Go.Proofs.YtinfejpkjddbiaaDoor.Fn02
