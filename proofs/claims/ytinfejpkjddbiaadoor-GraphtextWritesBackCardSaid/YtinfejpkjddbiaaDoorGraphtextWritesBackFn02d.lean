/- Part of the proof of the law GraphtextWritesBack: Fn02d. -/
import Derived.Test.YtinfejpkjddbiaaDoorGraphtextWritesBackFn02c
import Derived.Test.YtinfejpkjddbiaaDoorGraphtextWritesBackP0
import Derived.Test.YtinfejpkjddbiaaDoorGraphtextWritesBackP7
import Derived.Test.YtinfejpkjddbiaaDoorGraphtextWritesBackP5
namespace Go.Proofs.YtinfejpkjddbiaaDoor.Fn02
open Go.RowKit Go.Proofs.YtinfejpkjddbiaaDoor.P Go.Proofs.YtinfejpkjddbiaaDoorW.PrintWords Go.Proofs.YtinfejpkjddbiaaDoorW.PrintLast Go.Proofs.YtinfejpkjddbiaaDoorW.PrintMore Go.Proofs.YtinfejpkjddbiaaDoor.Fn01 Go.Proofs.YtinfejpkjddbiaaDoor.Math02
set_option linter.unusedVariables false
set_option linter.unusedSimpArgs false
set_option linter.unusedSectionVars false
section
end
theorem awake_out : parseR (linesR (dl ⟨#[110, 111, 100, 101, 32, 55, 32, 49, 47, 53, 10, 110, 111, 100, 101, 32, 51, 32, 48, 47, 53, 10]⟩)) 0 [] [] = ([7, 3], [[⟨1, 5⟩], [⟨0, 5⟩]], 0, 0) := by kernel_rfl
theorem awake_ev : Ev (fun k => selfstablaw02_awake.f k) true := by
 have h := tparse ⟨#[110, 111, 100, 101, 32, 55, 32, 49, 47, 53, 10, 110, 111, 100, 101, 32, 51, 32, 48, 47, 53, 10]⟩ (by decide)
 rw [awake_out] at h
 exact Ev.bind h (Pv.pos (by decide) (Pv.pos (by decide) (Pv.pos (by decide) (Pv.pos (by decide) (Pv.pos (by decide) (Pv.pos (by decide) (Pv.pos (by decide) (Pv.pos (by decide) (Pv.pos (by decide) (Ev.now _))))))))))
end Go.Proofs.YtinfejpkjddbiaaDoor.Fn02
