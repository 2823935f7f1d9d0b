/- No package variable is told of. -/
import Derived.WalkKit
namespace Go.Proofs.Ytfnbfkgknfagmaa
def LibOK (_ : Nat → Option Obj) : Prop := True
end Go.Proofs.Ytfnbfkgknfagmaa
