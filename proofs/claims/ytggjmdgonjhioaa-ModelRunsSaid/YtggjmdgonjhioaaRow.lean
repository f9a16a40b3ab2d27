/- Whole rows: an operation that answers a value, a store of a whole row into a new block, a result that is read out of a block. -/
import Derived.Test.YtggjmdgonjhioaaBase
import Derived.Deep.WholeRow
namespace Go.Dio
open Go

theorem L_value {P : Program} {ops : Array Oper} {rest : List Oper} {o : Oper} {a : Act} {w w' : World} {Q : Exit → Act → World → Prop} (hw : Region.wanted o (yielded ops a.tmps) = true) (v : Value)
    (hr : (execOp a.eval o).run P w = .ok (.value v) w') (h : wpList P ops Q rest (a.put o.dst v) w') : wpList P ops Q (o :: rest) a w :=
  wpList_step fun K hK => by
    rw [if_pos hw]
    unfold Oper.wp
    rw [hr]
    exact hK _ _ h

theorem L_store_new {P : Program} {ops : Array Oper} {rest : List Oper} {o : Oper} {a : Act} {w : World} {Q : Exit → Act → World → Prop} (ty : TypeId) (x y : Operand) (ho : o.op = .store ty x y) (hw : Region.wanted o (yielded ops a.tmps) = true)
    (c c' : Array Value) (hx : a.eval x = .pointer (some ⟨w.heap.size, 0, none⟩)) (hy : a.eval y = .agg c') (n : Nat) (hi : (P.info? ty).map (·.size) = some n) (hc : c.size = n) (hc' : c'.size = n) (h1 : c'.all (·.oneCell') = true)
    (h : wpList P ops Q rest (a.put o.dst undef) (w.alloc (.cells c' ty))) : wpList P ops Q (o :: rest) a (w.alloc (.cells c ty)) :=
  wpList_step fun K hK => by
    rw [if_pos hw]
    unfold Oper.wp execOp
    simp only [ho, hx, hy, Sem.run_bind, run_storeAt_new w ty c c' (by rw [hi, hc']) (by rw [hc, hc']) h1, Result.andThen_ok, Sem.run_pure]
    exact hK _ _ h

theorem nums_one (k : IntKind) (l : List Nat) : (nums k l).all (·.oneCell') = true := by
  simp [nums, Value.oneCell']
theorem nums_sz (k : IntKind) (l : List Nat) : (nums k l).size = l.length := by simp [nums]

/-- A place of an array by value, as the walk's simp asks it. -/
theorem run_index_nums {P : Program} (t e : TypeId) (n : Nat) (k : IntKind) (l : List Nat) (i : Nat) (h : P.underlying t = some (.array n e)) (hz : ∀ w, (sizeOf e).run P w = .ok 1 w) (ha : ∀ w, (isAgg e).run P w = .ok false w) (hl : l.length = n) (hi : i < n) (w : World) :
    (Instr.index t (.agg (nums k l)) (.int .i64 (i : Int))).run P w = .ok (.int k ((nth l i : Nat) : Int)) w := by
  have h2 : i < n := hi
  have hg := nums_nth k l i (by omega)
  simp [Instr.index, run_underlying h, asIntOf, h2, part, hz, ha, hg, go_sem]
end Go.Dio
