/- Events as data; which may be written. -/
import Derived.Test.YtbdejgbjelfbeaaVStamp
import Derived.Test.YtbdejgbjelfbeaaLDep
import Derived.Test.YtbdejgbjelfbeaaKWalks3
set_option linter.unusedSimpArgs false
set_option linter.unusedVariables false
namespace Go.Proofs.Ytbdejgbjelfbeaa
open Go.RowKit R
namespace L
def kindB (e : Event) : Bool := (e.kind == 1 && V.stampB e.n e.s) || (e.kind == 2 && ((e.n == 0 && e.s == 0) || V.stampB e.n e.s))
def depB (d : Dep) : Bool := K.checkB d.key && V.stampB d.n d.s
def lt? (p : Option ByteArray) (d : Dep) : Bool := match p with | none => true | some q => Op.bytesLess q.toList d.key.toList
def seenF : Option ByteArray → List Dep → Bool
  | _, [] => true
  | p, d :: l => depB d && (lt? p d && seenF (some d.key) l)
def headB (e : Event) : Bool := kindB e && (decide (0 ≤ e.client) && (decide (e.client ≤ 1000) && (K.checkB e.key && decide (e.seen.length ≤ 64))))
def check (e : Event) : Bool := headB e && seenF none e.seen
end L
end Go.Proofs.Ytbdejgbjelfbeaa
