/- A struct of a row of protected words and a counter, in memory. -/
import Derived.Test.YthoaofbhppdfoaaDoorSep
import Derived.Test.YthoaofbhppdfoaaDoorSeg
import Derived.Test.YthoaofbhppdfoaaDoorCel
import Derived.Test.YthoaofbhppdfoaaDoorRow
import Derived.Deep.LoopGhost
namespace Go.Proofs.YthoaofbhppdfoaaDoor
open Go.RowKit Go.Dio

/-- A struct of type T at block sb: its row at b, d; its counter. -/
structure HoldAt (T : TypeId) (sb b d : Nat) (l : List Nat) (f a : Nat) (w : World) : Prop where
  cell : w.heap[sb]? = some (.cells #[.pointer (some ⟨b, 0, none⟩), .int .i64 (a : Int)] T (0, 0))
  row : RowAt 66 b d l f w
  nb : sb ≠ b
  nd : sb ≠ d
  f0 : sb ≠ 0
theorem HoldAt.upd {T : TypeId} {sb b d : Nat} {l : List Nat} {f a : Nat} {S : List Nat} {w w' : World} (h : HoldAt T sb b d l f a w) (u : Upd S w w') (h1 : sb ∉ S) (h2 : b ∉ S) (h3 : d ∉ S) (hg : 0 ∉ S) : HoldAt T sb b d l f a w' :=
  ⟨u.keep h.cell h1, h.row.upd u h2 h3 hg, h.nb, h.nd, h.f0⟩
theorem HoldAt.upd0 {T : TypeId} {sb b d : Nat} {l : List Nat} {f a : Nat} {w w' : World} (h : HoldAt T sb b d l f a w) (u : Upd [] w w') : HoldAt T sb b d l f a w' := h.upd u (by simp) (by simp) (by simp) (by simp)
theorem HoldAt.step {T : TypeId} {sb b d : Nat} {l l' : List Nat} {f f' a : Nat} {S : List Nat} {w w' : World} (h : HoldAt T sb b d l f a w) (r : RowAt 66 b d l' f' w') (u : Upd S w w') (hS : ∀ x ∈ S, x = b ∨ x = d) : HoldAt T sb b d l' f' a w' :=
  ⟨u.keep h.cell (fun hx => by have := h.nb; have := h.nd; rcases hS _ hx with e | e <;> omega), r, h.nb, h.nd, h.f0⟩
theorem HoldAt.next {T : TypeId} {sb b d : Nat} {l : List Nat} {f a : Nat} {w : World} (h : HoldAt T sb b d l f a w) (n : Nat) : HoldAt T sb b d l f n (w.setCell ⟨sb, 1, none⟩ (.int .i64 (n : Int))) := by
  refine ⟨?_, ?_, h.nb, h.nd, h.f0⟩
  · rw [heap_setCell_eq h.cell]; simp
  · exact h.row.upd ((Upd.refl [sb] w).setCell (p := ⟨sb, 1, none⟩) (by simp) _) (by have := h.nb; simp; omega) (by have := h.nd; simp; omega) (by have := h.f0; simp; omega)
theorem HoldAt.slt {T : TypeId} {sb b d : Nat} {l : List Nat} {f a : Nat} {w : World} (h : HoldAt T sb b d l f a w) : sb < w.heap.size := lt_of_block h.cell
theorem alloc_two (w : World) (o1 o2 : Obj) : ((w.alloc o1).alloc o2).heap[w.heap.size + 1]? = some o2 := by simpa using Go.heap_alloc_last (w.alloc o1) o2
def holdA (T : TypeId) (sb b d : Nat) (l : List Nat) (f a : Nat) : Ast :=
  ⟨[sb, b, d], HoldAt T sb b d l f a, fun _ _ _ h u hb hg => h.upd u (hb sb (by simp)) (hb b (by simp)) (hb d (by simp)) hg⟩
end Go.Proofs.YthoaofbhppdfoaaDoor
