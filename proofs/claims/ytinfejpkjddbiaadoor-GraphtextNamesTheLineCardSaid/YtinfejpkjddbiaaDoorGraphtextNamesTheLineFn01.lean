/- Part of the proof of the law GraphtextNamesTheLine: Fn01. -/
import Derived.Test.YtinfejpkjddbiaaDoorGraphtextNamesTheLineP3
import Derived.Test.YtinfejpkjddbiaaDoorGraphtextNamesTheLineP6
import Derived.Test.YtinfejpkjddbiaaDoorGraphtextNamesTheLinePv
namespace Go.Proofs.YtinfejpkjddbiaaDoor.Fn01
open Go.RowKit Go.Proofs.YtinfejpkjddbiaaDoor.P Go.Proofs.YtinfejpkjddbiaaDoorW.PrintWords Go.Proofs.YtinfejpkjddbiaaDoorW.PrintLast Go.Proofs.YtinfejpkjddbiaaDoorW.PrintMore Go.Proofs.YtinfejpkjddbiaaDoor.Mp
set_option linter.unusedVariables false
set_option linter.unusedSimpArgs false
abbrev Row := List S41
def okL (n v : Int) (l : S41) : Prop := (0 ≤ l.f0 ∧ l.f0 < n) ∧ l.f0 ≠ v ∧ 1 ≤ l.f1 ∧ l.f1 ≤ 15
def wt : Row → Int → Int
 | [], _ => 0
 | l :: ls, y => if l.f0 = y then l.f1 else wt ls y
theorem wt_not : ∀ {r : Row} {y : Int}, (∀ l ∈ r, l.f0 ≠ y) → wt r y = 0
 | [], _, _ => rfl
 | l :: ls, y, h => by rw [wt, if_neg (h l (by simp))]; exact wt_not (fun u hu => h u (by simp [hu]))
def Links (n v : Int) (r : Row) : Prop := (∀ l ∈ r, okL n v l) ∧ (r.map (·.f0)).Nodup
structure VG (ids : List Int) (ps : List Row) : Prop where
 n1 : 1 ≤ ps.length
 n2 : ps.length ≤ 24
 len : ids.length = ps.length
 rng : ∀ x ∈ ids, 0 ≤ x ∧ x ≤ 255
 nod : ids.Nodup
 lnk : ∀ (i : Nat) r, ps[i]? = some r → Links ps.length i r
 sym : ∀ (i : Nat) r, ps[i]? = some r → ∀ l ∈ r, wt (ps.getD l.f0.toNat []) i = l.f1
end Go.Proofs.YtinfejpkjddbiaaDoor.Fn01
