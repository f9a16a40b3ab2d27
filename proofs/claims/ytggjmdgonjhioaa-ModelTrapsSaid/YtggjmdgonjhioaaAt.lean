/- Guards ahead of a law: an operation by its slot; a store by its address. -/
import Derived.Test.YtggjmdgonjhioaaBase
namespace Go.Dio
open Go
theorem at_op {P : Program} {ops : Array Oper} {Q : Exit → Act → World → Prop} {rest : List Oper} {a : Act} {w : World} (n : Nat) {op : Op} {ty : TypeId} {pos : String} {af : Array Edge} {g : Option (Nat × Bool)}
    (h : wpList P ops Q (⟨some n, op, ty, pos, af, g⟩ :: rest) a w) : wpList P ops Q (⟨some n, op, ty, pos, af, g⟩ :: rest) a w := h
theorem at_st {P : Program} {ops : Array Oper} {Q : Exit → Act → World → Prop} {rest : List Oper} {a : Act} {w : World} (n : Nat) {d : Option Tmp} {t : TypeId} {y : Operand} {ty : TypeId} {pos : String} {af : Array Edge} {g : Option (Nat × Bool)}
    (h : wpList P ops Q (⟨d, .store t (.tmp n) y, ty, pos, af, g⟩ :: rest) a w) : wpList P ops Q (⟨d, .store t (.tmp n) y, ty, pos, af, g⟩ :: rest) a w := h
end Go.Dio
