
/- Numbers' bytes: the walks. -/
import Derived.Test.YtfalbocgnmlncaaVPlain
import Derived.Test.YtfalbocgnmlncaaShelf
import Derived.Test.YtfalbocgnmlncaaEv
import Derived.WalkKit
import Derived.WalkSpells
import Derived.WalkLawsBesides
import Derived.BigQuiet
import Derived.Deep.QuietTactic
import Derived.Lib.Hide
set_option linter.unusedSimpArgs false
set_option linter.unusedVariables false
namespace Go.Proofs.Ytfalbocgnmlncaa
open Go.RowKit
end Go.Proofs.Ytfalbocgnmlncaa
