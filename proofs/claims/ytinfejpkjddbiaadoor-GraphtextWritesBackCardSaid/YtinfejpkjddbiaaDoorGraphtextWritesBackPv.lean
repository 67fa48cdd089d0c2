/- Part of the proof of the law GraphtextWritesBack: Pv. -/
import Derived.Test.YtinfejpkjddbiaaDoorGraphtextWritesBackWWords
import Derived.Test.YtinfejpkjddbiaaDoorGraphtextWritesBackWMore
import Derived.Test.YtinfejpkjddbiaaDoorGraphtextWritesBackWLast
namespace Go.Proofs.YtinfejpkjddbiaaDoor.Pv
open Go.RowKit Go.Proofs.YtinfejpkjddbiaaDoorW.PrintWords Go.Proofs.YtinfejpkjddbiaaDoorW.PrintLast Go.Proofs.YtinfejpkjddbiaaDoorW.PrintMore
theorem pos {α : Type} {c : Prop} [Decidable c] {g h : Nat → Option α} {r : α} (hc : c) (hg : Ev g r) : Ev (fun k => if c then g k else h k) r := by simpa [hc] using hg
theorem neg {α : Type} {c : Prop} [Decidable c] {g h : Nat → Option α} {r : α} (hc : ¬ c) (hg : Ev h r) : Ev (fun k => if c then g k else h k) r := by simpa [hc] using hg
theorem const {α : Type} {g : Option α} {r : α} (h : g = some r) : Ev (fun _ => g) r := ⟨0, fun _ _ => h⟩
theorem some_bind {α β : Type} {x : β} {f : Nat → β → Option α} {r : α} (h : Ev (fun k => f k x) r) : Ev (fun k => (some x).bind (f k)) r := h
theorem const_bind {α β : Type} {g : Option β} {x : β} {f : Nat → β → Option α} {r : α} (hg : g = some x) (h : Ev (fun k => f k x) r) : Ev (fun k => g.bind (f k)) r := by subst hg; exact h
theorem w64 {x : Int} (h1 : -9223372036854775808 ≤ x) (h2 : x ≤ 9223372036854775807) : wrap64 x = x := by unfold wrap64; omega
theorem as {α : Type} {g : Nat → Option α} {r s : α} (h : Ev g r) (e : r = s) : Ev g s := e ▸ h
end Go.Proofs.YtinfejpkjddbiaaDoor.Pv
