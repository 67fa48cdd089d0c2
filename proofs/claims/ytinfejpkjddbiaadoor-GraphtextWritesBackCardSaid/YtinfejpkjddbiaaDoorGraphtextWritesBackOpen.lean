/- Part of the proof of the law GraphtextWritesBack: Open. -/
import Derived.Test.YtinfejpkjddbiaaDoorGraphtextWritesBackWWords
import Derived.WalkKit
import Derived.ProofKit
import Derived.OpenShut
import Derived.ShutString
import Derived.ChangeOld
import Derived.Below
import Derived.SizedLaws
namespace Go.Proofs.YtinfejpkjddbiaaDoor.Open
open Go.RowKit Go.ChangeShapes Go.WideShapes Go.Proofs.YtinfejpkjddbiaaDoorW.PrintWords
section
variable {P : Program} {W : World} {H : Type} {enc : TypeId × Value → H} {α β : Type}
def Opens (P : Program) (W : World) (enc : TypeId × Value → H) (t : TypeId) (d : Kd α) (wf : α → Prop) : Prop :=
 d.sz = P.cellsOf t ∧ ∀ fuel cs x, DataW.trod enc P W 0 (fun _ => true) true fuel t cs = some x → ∃ a, d.K W a cs ∧ wf a
theorem Opens.int {t : TypeId} {k : IntKind} (ht : P.underlying t = some (.int k)) (hc : P.cellsOf t = 1) : Opens P W enc t (Kd.int k) (fun n => (Lit.int k n).wf = true) :=
 ⟨hc.symm, fun fuel cs x h => by obtain ⟨n, rfl, _, hw⟩ := DataW.trod_int ht h; exact ⟨n, rfl, hw⟩⟩
theorem Opens.bool {t : TypeId} (ht : P.underlying t = some .bool) (hc : P.cellsOf t = 1) : Opens P W enc t Kd.bool (fun _ => True) :=
 ⟨hc.symm, fun fuel cs x h => by
  have hcs : ∃ b : Bool, cs = [.bool b] := by
   cases fuel with
   | zero => simp [DataW.trod] at h
   | succ n =>
    unfold DataW.trod at h
    rw [ht] at h
    split at h <;> simp_all
  obtain ⟨b, rfl⟩ := hcs
  exact ⟨b, rfl, trivial⟩⟩
theorem Opens.string {t : TypeId} (ht : P.underlying t = some .string) (hc : P.cellsOf t = 1) : Opens P W enc t Kd.string (fun s => s.size ≤ maxLen) :=
 ⟨hc.symm, fun fuel cs x h => by obtain ⟨s, rfl, _, hw⟩ := DataW.trod_string ht h; exact ⟨s, rfl, hw⟩⟩
theorem Opens.slice {t e : TypeId} {d : Kd α} {wf : α → Prop} (ht : P.underlying t = some (.slice e)) (hc : P.cellsOf t = 1) (h : Opens P W enc e d wf) :
  Opens P W enc t (Kd.slice e d) (fun l => l.length ≤ maxLen ∧ ∀ x ∈ l, wf x) := by
 refine ⟨hc.symm, fun fuel cs x hx => ?_⟩
 rcases DataW.trod_slice ht hx with ⟨rfl, _⟩ | ⟨a, len, cap, elems, rest, n, _, rfl, _, _, hlc, hcm, hel, hget, _, _⟩
 ·exact ⟨[], ⟨none, 0, rfl, Nat.le_refl _, Kd.C_nil _ _⟩, by simp, by simp⟩
 ·have key : ∀ i, i < len → ∃ y c, W.cells? 0 (a.add (i * P.cellsOf e)) (P.cellsOf e) = some c ∧ d.K W y c ∧ wf y := by
   intro i hi;have h1 := hget i hi
   rw [List.getElem?_eq_getElem (by omega)] at h1
   obtain ⟨c, hc1, hc2⟩ := Option.bind_eq_some_iff.1 h1
   obtain ⟨y, hy, hw⟩ := h.2 _ _ _ hc2
   exact ⟨y, c, hc1, hy, hw⟩
  have all : ∀ m, m ≤ len → ∃ ys : List α, ys.length = m ∧ (∀ y ∈ ys, wf y) ∧ ∀ j p, ys[j]? = some p → ∃ c, W.cells? 0 (a.add (j * P.cellsOf e)) (P.cellsOf e) = some c ∧ d.K W p c := by
   intro m;induction m with
   | zero => exact fun _ => ⟨[], rfl, by simp, by simp⟩
   | succ m ih =>
    intro hm;obtain ⟨ys, hl, hwf, hys⟩ := ih (by omega)
    obtain ⟨y, c, hc1, hc2, hw⟩ := key m (by omega)
    refine ⟨ys ++ [y], by simp [hl], ?_, ?_⟩
    ·intro z hz;rcases List.mem_append.1 hz with hz | hz
     ·exact hwf z hz
     ·rw [List.mem_singleton.1 hz]; exact hw
    ·intro j p hp;rcases Nat.lt_or_ge j ys.length with hj | hj
     ·rw [List.getElem?_append_left hj] at hp
      exact hys j p hp
     ·rw [List.getElem?_append_right hj] at hp
      have hj2 : j = m := by
       have := (List.getElem?_eq_some_iff.1 hp).1
       simp at this
       omega
      subst hj2;rw [hl, Nat.sub_self] at hp
      simp at hp
      subst hp;exact ⟨c, hc1, hc2⟩
  obtain ⟨ys, hl, hwf, hys⟩ := all len (Nat.le_refl _)
  refine ⟨ys, ⟨some a, cap, by rw [hl], by omega, rfl, by unfold maxLen at hcm; omega, fun _ => ⟨a, rfl, fun j p hp => ?_⟩⟩, by rw [hl]; omega, hwf⟩
  obtain ⟨c, hc1, hc2⟩ := hys j p hp
  refine ⟨c, d.K_len hc2, hc2, fun i u hu => ?_⟩
  obtain ⟨_, _, hcell⟩ := World.cells?_some hc1
  have hi := (List.getElem?_eq_some_iff.1 hu).1
  have hlen := d.K_len hc2
  have := hcell i (by rw [← h.1]; omega)
  rw [← h.1, add_add] at this
  rw [this]
  exact hu
def OpensF (P : Program) (W : World) (enc : TypeId × Value → H) (fs : List Field) (off : Nat) (d : Kd α) (wf : α → Prop) : Prop :=
 ∀ (fuel : Nat) (cs : List Value), cs.length = off + d.sz → (∀ f ∈ fs, ∃ x, DataW.trod enc P W 0 (fun _ => true) true fuel f.type ((cs.drop f.offset).take (P.cellsOf f.type)) = some x) → ∃ a, d.K W a (cs.drop off) ∧ wf a
theorem OpensF.one {f : Field} {off : Nat} {t : TypeId} {d : Kd α} {wf : α → Prop} (ho : f.offset = off) (ht : f.type = t) (h : Opens P W enc t d wf) : OpensF P W enc [f] off d wf := by
 intro fuel cs hl hx;obtain ⟨x, hx⟩ := hx f (by simp)
 subst ht;obtain ⟨a, ha, hw⟩ := h.2 _ _ _ hx
 refine ⟨a, ?_, hw⟩
 rw [ho, List.take_of_length_le (by rw [List.length_drop, ← h.1]; omega)] at ha
 exact ha
theorem OpensF.cons {f : Field} {fs : List Field} {off off2 : Nat} {t : TypeId} {d : Kd α} {d2 : Kd β} {wf : α → Prop} {wf2 : β → Prop} (ho : f.offset = off) (ht : f.type = t) (h : Opens P W enc t d wf) (h2 : OpensF P W enc fs off2 d2 wf2) (ho2 : off2 = off + d.sz) :
  OpensF P W enc (f :: fs) off (Kd.pair d d2) (fun x => wf x.1 ∧ wf2 x.2) := by
 intro fuel cs hl hx;obtain ⟨x, hx1⟩ := hx f (by simp)
 subst ht;obtain ⟨a, ha, hw⟩ := h.2 _ _ _ hx1
 have hl' : cs.length = off + (d.sz + d2.sz) := hl
 obtain ⟨b, hb, hw2⟩ := h2 fuel cs (by omega) (fun g hg => hx g (by simp [hg]))
 refine ⟨(a, b), ⟨(cs.drop off).take d.sz, cs.drop off2, ?_, ?_, hb⟩, hw, hw2⟩
 ·rw [ho2, ← List.drop_drop]; exact (List.take_append_drop _ _).symm
 ·rw [ho, ← h.1] at ha; exact ha
theorem Opens.struct {t : TypeId} {fs : Array Field} {d : Kd α} {wf : α → Prop} {wf2 : β → Prop} (f : β → α) (g : α → β) (hfg : ∀ a, f (g a) = a) (ht : P.underlying t = some (.struct fs)) (hc : d.sz = P.cellsOf t) (h : OpensF P W enc fs.toList 0 d wf)
  (hw : ∀ b, wf (f b) → wf2 b) : Opens P W enc t (Kd.iso d f) wf2 := by
 refine ⟨hc, fun fuel cs x hx => ?_⟩
 obtain ⟨xs, n, _, _, hl, hsz, hget⟩ := DataW.trod_struct ht hx
 obtain ⟨a, ha, hwa⟩ := h n cs (by rw [hc]; omega) (fun f hf => by
  obtain ⟨i, hi⟩ := List.getElem?_of_mem hf
  have hi' : fs[i]? = some f := by simpa using hi
  have := hget i f hi'
  have hlt : i < xs.length := by rw [hsz]; exact (Array.getElem?_eq_some_iff.1 hi').1
  rw [List.getElem?_eq_getElem hlt] at this
  exact ⟨_, this⟩)
 refine ⟨g a, ?_, hw _ (by rw [hfg]; exact hwa)⟩
 show d.K W (f (g a)) cs
 rw [hfg]
 simpa using ha
theorem Opens.as {t : TypeId} {d d2 : Kd α} {wf : α → Prop} (h : Opens P W enc t d wf) (hd : d2 = d) : Opens P W enc t d2 wf := hd ▸ h
end
end Go.Proofs.YtinfejpkjddbiaaDoor.Open
