
/- Number, Text, stamps' bytes: the walks. -/
import Derived.Test.YtgoncpjgpkoacaaVJoin
import Derived.Test.YtgoncpjgpkoacaaRep
set_option linter.unusedSimpArgs false
set_option linter.unusedVariables false
namespace Go.Proofs.Ytgoncpjgpkoacaa
open Go.RowKit R
end Go.Proofs.Ytgoncpjgpkoacaa
