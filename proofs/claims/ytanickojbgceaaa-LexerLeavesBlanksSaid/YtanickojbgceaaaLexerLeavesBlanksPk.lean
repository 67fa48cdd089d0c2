/- Two short names. -/
namespace Go.Proofs.Ytanickojbgceaaa.Pk
abbrev B1 : Bool := true
abbrev B0 : Bool := false
end Go.Proofs.Ytanickojbgceaaa.Pk
