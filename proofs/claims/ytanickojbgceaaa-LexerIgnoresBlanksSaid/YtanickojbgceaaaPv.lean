/- Small words for printed functions: what a function answers with enough rounds (Ev), step by step. -/
import Derived.Test.YtanickojbgceaaaWWords
import Derived.Test.YtanickojbgceaaaWMore
import Derived.Test.YtanickojbgceaaaWLast
namespace Go.Proofs.Ytanickojbgceaaa.Pv
open Go.RowKit Go.Proofs.YtanickojbgceaaaW.PrintWords Go.Proofs.YtanickojbgceaaaW.PrintLast Go.Proofs.YtanickojbgceaaaW.PrintMore
theorem pos {α : Type} {c : Prop} [Decidable c] {g h : Nat → Option α} {r : α} (hc : c) (hg : Ev g r) : Ev (fun k => if c then g k else h k) r := by simpa [hc] using hg
theorem neg {α : Type} {c : Prop} [Decidable c] {g h : Nat → Option α} {r : α} (hc : ¬ c) (hg : Ev h r) : Ev (fun k => if c then g k else h k) r := by simpa [hc] using hg
theorem const {α : Type} {g : Option α} {r : α} (h : g = some r) : Ev (fun _ => g) r := ⟨0, fun _ _ => h⟩
theorem some_bind {α β : Type} {x : β} {f : Nat → β → Option α} {r : α} (h : Ev (fun k => f k x) r) : Ev (fun k => (some x).bind (f k)) r := h
theorem const_bind {α β : Type} {g : Option β} {x : β} {f : Nat → β → Option α} {r : α} (hg : g = some x) (h : Ev (fun k => f k x) r) : Ev (fun k => g.bind (f k)) r := by subst hg; exact h
theorem w64 {x : Int} (h1 : -9223372036854775808 ≤ x) (h2 : x ≤ 9223372036854775807) : wrap64 x = x := by unfold wrap64; omega
theorem as {α : Type} {g : Nat → Option α} {r s : α} (h : Ev g r) (e : r = s) : Ev g s := e ▸ h
theorem mx_eq (a b : Int) : mx a b = max a b := by unfold mx; omega
theorem mn_eq (a b : Int) : mn a b = min a b := by unfold mn; omega
theorem rd_lt {l : List Int} {i : Int} (h0 : 0 ≤ i) (h1 : i < l.length) : rd l i = l[i.toNat]'(by omega) := by unfold rd; simp [List.getD_eq_getElem?_getD, List.getElem?_eq_getElem (show i.toNat < l.length by omega)]
theorem beq_int (a b : Int) : (a == b) = decide (a = b) := rfl
theorem wf64 {a : Int} (h : (Lit.int .i64 a).wf = true) : -9223372036854775808 ≤ a ∧ a ≤ 9223372036854775807 := by
  simp only [Lit.wf, Bool.and_eq_true, decide_eq_true_eq] at h
  exact ⟨h.1, h.2⟩
end Go.Proofs.Ytanickojbgceaaa.Pv
