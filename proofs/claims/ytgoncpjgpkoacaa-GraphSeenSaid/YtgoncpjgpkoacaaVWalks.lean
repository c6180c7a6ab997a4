
/- Numbers' bytes: the walks. -/
import Derived.Test.YtgoncpjgpkoacaaVPlain
import Derived.Test.YtgoncpjgpkoacaaShelf
import Derived.Test.YtgoncpjgpkoacaaEv
import Derived.WalkKit
import Derived.WalkSpells
import Derived.WalkLawsBesides
import Derived.BigQuiet
import Derived.Deep.QuietTactic
import Derived.Lib.Hide
set_option linter.unusedSimpArgs false
set_option linter.unusedVariables false
namespace Go.Proofs.Ytgoncpjgpkoacaa
open Go.RowKit
end Go.Proofs.Ytgoncpjgpkoacaa
