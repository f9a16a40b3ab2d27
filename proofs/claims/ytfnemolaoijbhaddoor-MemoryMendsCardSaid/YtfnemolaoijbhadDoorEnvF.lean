/- Registers, and the document's own row, as assertions: their calls. -/
import Derived.Test.YtfnemolaoijbhadDoorFile2
import Derived.Test.YtfnemolaoijbhadDoorRowE
namespace Go.Proofs.YtfnemolaoijbhadDoor
open Go.RowKit Go.Dio

section
variable {w0 : World} {As : List Ast} {w : World} (h : Env w0 As w) (h0 : Tz w0) (k : Nat)
include h h0
section
end
section
end
end

end Go.Proofs.YtfnemolaoijbhadDoor
