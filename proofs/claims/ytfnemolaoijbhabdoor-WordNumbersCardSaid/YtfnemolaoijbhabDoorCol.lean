/- hsiao.Column. -/
import Derived.Test.YtfnemolaoijbhabDoorMend
import Derived.WalkMore
namespace Go.Proofs.YtfnemolaoijbhabDoor
open Go.RowKit Go.Dio

end Go.Proofs.YtfnemolaoijbhabDoor
