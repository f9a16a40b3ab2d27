/- hsiao.Column. -/
import Derived.Test.YthoaofbhppdfoaaDoorMend
import Derived.WalkMore
namespace Go.Proofs.YthoaofbhppdfoaaDoor
open Go.RowKit Go.Dio

end Go.Proofs.YthoaofbhppdfoaaDoor
