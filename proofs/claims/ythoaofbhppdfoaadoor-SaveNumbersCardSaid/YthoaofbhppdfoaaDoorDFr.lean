/- The frame of a law over the library's table: the table as the row lists it; a world for the witness; no parameter wants a stand-in. -/
import Derived.Test.YthoaofbhppdfoaaDoorCards
import Derived.Test.YthoaofbhppdfoaaDoorTie
import Derived.Test.YthoaofbhppdfoaaDoorFr
import Derived.Test.YthoaofbhppdfoaaDoorSyn
import Derived.Deep.DeepHandedRow
import Derived.Lib.LaidTab
namespace Go.Proofs.YthoaofbhppdfoaaDoor.dfr
open Go.ChangeShapes Go.WideShapes Go.ChangeAt Go.RowKit Go.Dio

theorem gTab : Tryd.prog.globalNamed "math/bits.deBruijn64tab" = some 0 := by kernel_rfl
theorem gTabType : (Tryd.prog.globals[0]?).map (·.type) = some 75 := by kernel_rfl
theorem cellsTab : Tryd.prog.cellsOf 75 = 64 := by kernel_rfl
theorem cellsOne : Tryd.prog.cellsOf 5 = 1 := by kernel_rfl

theorem table {W : World} (h : laidMetH Tryd.prog [("math/bits.deBruijn64tab", Rows.laid_math_bits_deBruijn64tab)] W) : Tz W := fun j hj => by
  have ht : Lib.TabIs Tryd.prog W "math/bits.deBruijn64tab" .u8 (Lib.deBruijn64tab.map Int.ofNat) :=
    Lib.tabIs_of_head (rest := []) gTab gTabType Tryd.underlying75 Tryd.underlying5 cellsOne cellsTab h
  have hc := ht.cell gTab j (by rw [List.length_map]; exact hj)
  rw [hc]
  have hl : j < Lib.deBruijn64tab.length := hj
  simp [List.getD, hl]

noncomputable def laidWorld (os : Os) : World :=
  { World.holding Tryd.prog os ⟨#[], #[], []⟩ with heap := (World.holding Tryd.prog os ⟨#[], #[], []⟩).heap.modify 0 fun
      | .cells _ t frozen => .cells (nums .u8 Lib.deBruijn64tab) t frozen
      | o => o }

theorem nat_u32 {x : Int} (h : (Lit.int .u32 x).wf = true) : ∃ n : Nat, x = (n : Int) ∧ n < 2 ^ 32 := by
  have hx : 0 ≤ x ∧ x ≤ 4294967295 := by simpa [Lit.wf, IntKind.min, IntKind.max, IntKind.signed, IntKind.bits] using h
  exact ⟨x.toNat, by omega, by omega⟩
theorem nat_u64 {x : Int} (h : (Lit.int .u64 x).wf = true) : ∃ n : Nat, x = (n : Int) ∧ n < 2 ^ 64 := by
  have hx : 0 ≤ x ∧ x ≤ 18446744073709551615 := by simpa [Lit.wf, IntKind.min, IntKind.max, IntKind.signed, IntKind.bits] using h
  exact ⟨x.toNat, by omega, by omega⟩
end Go.Proofs.YthoaofbhppdfoaaDoor.dfr
