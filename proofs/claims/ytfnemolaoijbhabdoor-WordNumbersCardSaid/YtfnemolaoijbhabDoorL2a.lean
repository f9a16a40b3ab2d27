/- Law 2: what is known; the same as the document's. -/
import Derived.Test.YtfnemolaoijbhabDoorRef
namespace Go.Proofs.YtfnemolaoijbhabDoor
open Go.RowKit Go.Dio

/-- The library's table is laid; what was there is as it was. -/
def In (w0 w : World) : Prop := Tz w ∧ Below w0.heap.size w0 w
theorem In.start {w : World} (h : Tz w) : In w w := ⟨h, Below.refl _ _⟩
theorem In.step {w0 w w' : World} (h : In w0 w) (hb : Below w.heap.size w w') : In w0 w' := ⟨h.1.of_below hb h.1.size, h.2.trans (hb.mono h.2.size)⟩

end Go.Proofs.YtfnemolaoijbhabDoor
