/- The document's own rows of protected words. -/
import Derived.Test.YtmdjhahafjlebaaGreatDoorQD16
import Derived.Test.YtmdjhahafjlebaaGreatDoorQD14
namespace Go.Proofs.YtmdjhahafjlebaaGreatDoor
open Go.RowKit Go.Dio
set_option linter.unusedSimpArgs false
set_option linter.unusedVariables false

end Go.Proofs.YtmdjhahafjlebaaGreatDoor

namespace Go.Proofs.YtmdjhahafjlebaaGreatDoor
open Go.RowKit Go.Dio
set_option linter.unusedSimpArgs false
set_option linter.unusedVariables false

end Go.Proofs.YtmdjhahafjlebaaGreatDoor
