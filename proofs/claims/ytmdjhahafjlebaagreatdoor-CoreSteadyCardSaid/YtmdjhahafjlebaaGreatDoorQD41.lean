/- A plain machine: Step. -/
import Derived.Test.YtmdjhahafjlebaaGreatDoorQD39
namespace Go.Proofs.YtmdjhahafjlebaaGreatDoor
open Go.RowKit Go.Dio
set_option linter.unusedSimpArgs false
set_option linter.unusedVariables false

def retL (r : RetV) : List Value := [.int .u32 r.pc, .int .u32 r.val, .int .i64 r.rd, .bool r.st, .int .u32 r.addr, .int .u32 r.data, .int .i64 r.mask]
theorem retL_one (r : RetV) : ((retL r).toArray.all fun x => x.oneCell') = true := by simp [retL, Value.oneCell']
/-- A step's cells in the middle of what is made. -/
theorem made_ret {w : World} {b : Nat} {t : TypeId} {m : MadeV} (h : w.heap[b]? = some (.cells m.cells.toArray t (0, 0))) : w.rangeAt b 0 (retL m.r).toArray.toList := fun j v hv => by
  rw [cells_of h]
  match j, hv with
  | 0, hv => exact hv
  | 1, hv => exact hv
  | 2, hv => exact hv
  | 3, hv => exact hv
  | 4, hv => exact hv
  | 5, hv => exact hv
  | 6, hv => exact hv
  | n + 7, hv => simp [retL] at hv
theorem made_csr {w : World} {b : Nat} {t : TypeId} {m : MadeV} (h : w.heap[b]? = some (.cells m.cells.toArray t (0, 0))) : w.rangeAt b 8 (csV m.csrs) := fun j v hv => by
  rw [cells_of h]
  match j, hv with
  | 0, hv => exact hv
  | 1, hv => exact hv
  | 2, hv => exact hv
  | 3, hv => exact hv
  | 4, hv => exact hv
  | n + 5, hv => simp [csV] at hv
end Go.Proofs.YtmdjhahafjlebaaGreatDoor
