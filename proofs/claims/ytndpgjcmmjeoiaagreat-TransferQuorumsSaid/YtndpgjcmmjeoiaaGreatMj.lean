/- A call that is lent objects and returns a list of the caller's own. Own work; imports the kit's laws only. -/
import Derived.Test.YtndpgjcmmjeoiaaGreatMe
set_option linter.unusedVariables false
set_option linter.unusedSimpArgs false
set_option maxRecDepth 8000
set_option maxHeartbeats 1000000
namespace Go.AM
open V (Le LeL)
section
variable {P : Program} {rest : List Oper} {A : Array Oper} {H : Heap} {slots : List V} {K1 : St → Prop} {D : Tmp} {t : TypeId} {pos : String} {af : Array Edge}
end
section
variable {P : Program} {w0 : World} {O M : Nat → Prop}
end
end Go.AM
