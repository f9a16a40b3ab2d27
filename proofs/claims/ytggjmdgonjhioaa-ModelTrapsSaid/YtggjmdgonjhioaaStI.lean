/- The store of one number into a cell of a known block, at the list of a region's operations. -/
import Derived.Test.YtggjmdgonjhioaaCel
import Derived.Test.YtggjmdgonjhioaaRow
import Derived.Test.YtggjmdgonjhioaaAt
namespace Go.Dio
open Go Go.RowKit

theorem run_storeAt_int {P : Program} (w : World) (b o : Nat) (ty : TypeId) (k : IntKind) (n : Int) (ht : w.there b o 1) (hi : (P.info? ty).map (·.size) = some 1) :
    (Instr.storeAt ty (.pointer (some ⟨b, o, none⟩)) (.int k n)).run P w = .ok () (w.setCell ⟨b, o, none⟩ (.int k n)) := by
  have := run_storeCells_cells (P := P) b o [.int k n] 0 w (fun j hj => by simpa using (ht j (by simpa using hj)).1) (fun j hj => by simpa using (ht j (by simpa using hj)).2)
    (fun v hv => by simp at hv; subst hv; rfl)
  cases hq : P.info? ty with
  | none => simp [hq] at hi
  | some i =>
    have hs : i.size = 1 := by simpa [hq] using hi
    simp only [Nat.add_zero] at this
    simp only [Instr.storeAt, Instr.sureAddr, Sem.run_bind, Sem.run_pure, Result.andThen_ok]
    simpa [storeVar, sizeOf, typeInfo, hq, Value.cells, hs, World.setCells] using this

theorem L_store_int {P : Program} {ops : Array Oper} {rest : List Oper} {o : Oper} {a : Act} {w : World} {Q : Exit → Act → World → Prop} (ty : TypeId) (x y : Operand) (ho : o.op = .store ty x y) (hw : Region.wanted o (yielded ops a.tmps) = true)
    (b off : Nat) (hx : a.eval x = .pointer (some ⟨b, off, none⟩)) (c : List Value) (t : TypeId) (hb : w.heap[b]? = some (.cells c.toArray t (0, 0))) (k : IntKind) (n : Int) (hy : a.eval y = .int k n)
    (hi : (P.info? ty).map (·.size) = some 1) (hle : off < c.length)
    (h : ∀ w', w'.heap[b]? = some (.cells (c.set off (.int k n)).toArray t (0, 0)) → Upd [b] w w' → w'.heap.size = w.heap.size → wpList P ops Q rest (a.put o.dst undef) w') : wpList P ops Q (o :: rest) a w :=
  wpList_step fun K hK => by
    rw [if_pos hw]
    have hth : w.there b off 1 := fun j hj => by
      refine ⟨?_, free_of hb _⟩
      rw [cells_of hb]
      simp only [List.getElem?_toArray, Option.isSome_iff_exists]
      exact ⟨_, List.getElem?_eq_getElem (by omega)⟩
    unfold Oper.wp execOp
    simp only [ho, hx, hy, Sem.run_bind, run_storeAt_int w b off ty k n hth hi, Result.andThen_ok, Sem.run_pure]
    refine hK _ _ (h _ ?_ ((Upd.refl [b] w).setCell (p := ⟨b, off, none⟩) (by simp) _) (by simp [World.setCell]))
    rw [heap_setCell_eq hb]; simp
end Go.Dio
