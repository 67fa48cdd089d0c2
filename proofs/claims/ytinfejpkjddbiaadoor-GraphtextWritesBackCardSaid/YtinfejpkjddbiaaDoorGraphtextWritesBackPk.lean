/- Two short names. -/
namespace Go.Proofs.YtinfejpkjddbiaaDoor.Pk
abbrev B1 : Bool := true
abbrev B0 : Bool := false
end Go.Proofs.YtinfejpkjddbiaaDoor.Pk
