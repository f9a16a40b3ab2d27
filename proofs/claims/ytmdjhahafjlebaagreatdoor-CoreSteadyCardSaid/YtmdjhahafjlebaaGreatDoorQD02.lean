/- Whole rows: an operation that answers a value, a store of a whole row into a new block, a result that is read out of a block. -/
import Derived.Test.YtmdjhahafjlebaaGreatDoorQD00
import Derived.Deep.WholeRow
namespace Go.Dio
open Go

theorem L_value {P : Program} {ops : Array Oper} {rest : List Oper} {o : Oper} {a : Act} {w w' : World} {Q : Exit → Act → World → Prop} (hw : Region.wanted o (yielded ops a.tmps) = true) (v : Value)
    (hr : (execOp a.eval o).run P w = .ok (.value v) w') (h : wpList P ops Q rest (a.put o.dst v) w') : wpList P ops Q (o :: rest) a w :=
  wpList_step fun K hK => by
    rw [if_pos hw]
    unfold Oper.wp
    rw [hr]
    exact hK _ _ h

theorem L_store_new {P : Program} {ops : Array Oper} {rest : List Oper} {o : Oper} {a : Act} {w : World} {Q : Exit → Act → World → Prop} (ty : TypeId) (x y : Operand) (ho : o.op = .store ty x y) (hw : Region.wanted o (yielded ops a.tmps) = true)
    (c c' : Array Value) (hx : a.eval x = .pointer (some ⟨w.heap.size, 0, none⟩)) (hy : a.eval y = .agg c') (n : Nat) (hi : (P.info? ty).map (·.size) = some n) (hc : c.size = n) (hc' : c'.size = n) (h1 : c'.all (·.oneCell') = true)
    (h : wpList P ops Q rest (a.put o.dst undef) (w.alloc (.cells c' ty))) : wpList P ops Q (o :: rest) a (w.alloc (.cells c ty)) :=
  wpList_step fun K hK => by
    rw [if_pos hw]
    unfold Oper.wp execOp
    simp only [ho, hx, hy, Sem.run_bind, run_storeAt_new w ty c c' (by rw [hi, hc']) (by rw [hc, hc']) h1, Result.andThen_ok, Sem.run_pure]
    exact hK _ _ h

theorem nums_one (k : IntKind) (l : List Nat) : (nums k l).all (·.oneCell') = true := by
  simp [nums, Value.oneCell']
theorem nums_sz (k : IntKind) (l : List Nat) : (nums k l).size = l.length := by simp [nums]

/-- A place of an array by value, as the walk's simp asks it. -/
theorem run_index_nums {P : Program} (t e : TypeId) (n : Nat) (k : IntKind) (l : List Nat) (i : Nat) (h : P.underlying t = some (.array n e)) (hz : ∀ w, (sizeOf e).run P w = .ok 1 w) (ha : ∀ w, (isAgg e).run P w = .ok false w) (hl : l.length = n) (hi : i < n) (w : World) :
    (Instr.index t (.agg (nums k l)) (.int .i64 (i : Int))).run P w = .ok (.int k ((nth l i : Nat) : Int)) w := by
  have h2 : i < n := hi
  have hg := nums_nth k l i (by omega)
  simp [Instr.index, run_underlying h, asIntOf, h2, part, hz, ha, hg, go_sem]
end Go.Dio

namespace Go.Dio
open Go Go.RowKit

/-- Cells with some of them laid over. -/
def spl (c : List Value) (o : Nat) (vs : List Value) : List Value := c.take o ++ vs ++ c.drop (o + vs.length)
theorem spl_nil (c : List Value) (o : Nat) : spl c o [] = c := by simp [spl]
theorem spl_len {c : List Value} {o : Nat} {vs : List Value} (h : o + vs.length ≤ c.length) : (spl c o vs).length = c.length := by
  simp only [spl, List.length_append, List.length_take, List.length_drop]; omega
theorem spl_all {c vs : List Value} (h : vs.length = c.length) : spl c 0 vs = vs := by simp [spl, h]
theorem spl_cons {c : List Value} {o : Nat} {v : Value} {vs : List Value} (h : o < c.length) : spl (c.set o v) (o + 1) vs = spl c o (v :: vs) := by
  simp only [spl]
  have e1 : (c.set o v).take (o + 1) = c.take o ++ [v] := by
    rw [List.take_succ_eq_append_getElem (by simpa using h), List.take_set_of_le (Nat.le_refl _)]
    simp
  have e2 : (c.set o v).drop (o + 1 + vs.length) = c.drop (o + (v :: vs).length) := by
    rw [List.drop_set_of_lt (by omega)]
    simp only [List.length_cons]; congr 1; omega
  rw [e1, e2]
  simp

theorem heap_setCells (b : Nat) (t : TypeId) : ∀ (vs : List Value) (o : Nat) (c : List Value) (w : World), w.heap[b]? = some (.cells c.toArray t (0, 0)) → o + vs.length ≤ c.length →
    (w.setCells b o vs).heap[b]? = some (.cells (spl c o vs).toArray t (0, 0)) ∧ Upd [b] w (w.setCells b o vs) ∧ (w.setCells b o vs).heap.size = w.heap.size
  | [], o, c, w, h, _ => by rw [spl_nil]; exact ⟨h, Upd.refl _ _, rfl⟩
  | v :: vs, o, c, w, h, hl => by
    simp only [List.length_cons] at hl
    have h1 : (w.setCell ⟨b, o, none⟩ v).heap[b]? = some (.cells (c.set o v).toArray t (0, 0)) := by
      rw [heap_setCell_eq h]; simp
    obtain ⟨a1, a2, a3⟩ := heap_setCells b t vs (o + 1) (c.set o v) _ h1 (by simp; omega)
    rw [spl_cons (by omega)] at a1
    refine ⟨a1, ((Upd.refl [b] w).setCell (p := ⟨b, o, none⟩) (by simp) v).trans a2, ?_⟩
    have : (w.setCell ⟨b, o, none⟩ v).heap.size = w.heap.size := by simp [World.setCell]
    exact a3.trans this

/-- A row that is stored into a block that is known whole. -/
theorem L_store_row {P : Program} {ops : Array Oper} {rest : List Oper} {o : Oper} {a : Act} {w : World} {Q : Exit → Act → World → Prop} (ty : TypeId) (x y : Operand) (ho : o.op = .store ty x y) (hw : Region.wanted o (yielded ops a.tmps) = true)
    (b off : Nat) (hx : a.eval x = .pointer (some ⟨b, off, none⟩)) (c : List Value) (t : TypeId) (hb : w.heap[b]? = some (.cells c.toArray t (0, 0))) (c' : Array Value) (hy : a.eval y = .agg c')
    (n : Nat) (hi : (P.info? ty).map (·.size) = some n) (hc' : c'.size = n) (hle : off + n ≤ c.length) (h1 : c'.all (·.oneCell') = true)
    (h : ∀ w', w'.heap[b]? = some (.cells (spl c off c'.toList).toArray t (0, 0)) → Upd [b] w w' → w'.heap.size = w.heap.size → wpList P ops Q rest (a.put o.dst undef) w') : wpList P ops Q (o :: rest) a w :=
  wpList_step fun K hK => by
    rw [if_pos hw]
    have hth : w.there b off c'.size := fun j hj => by
      refine ⟨?_, free_of hb _⟩
      rw [cells_of hb]
      simp only [List.getElem?_toArray, Option.isSome_iff_exists]
      exact ⟨_, List.getElem?_eq_getElem (by omega)⟩
    obtain ⟨k1, k2, k3⟩ := heap_setCells b t c'.toList off c w hb (by simp; omega)
    exact wp_store_mid ty x y ho b off c' hx hy hth (by rw [hi, hc']) h1 (by simpa using hK _ _ (h _ k1 k2 k3))

theorem run_neq_nums {P : Program} (t e : TypeId) (n : Nat) (k : IntKind) (ht : P.underlying t = some (.array n e)) (he : P.underlying e = some (.int k)) (hsz : ∀ w, (sizeOf e).run P w = .ok 1 w)
    (xs ys : List Nat) (hx : xs.length = n) (hy : ys.length = n) (w : World) :
    (binOp .neq t (.agg (nums k xs)) (.agg (nums k ys))).run P w = .ok (.bool (!decide (xs = ys))) w := by
  rw [run_neq_struct, run_equalIn_nums w 9998 t e n k ht he hsz xs ys hx hy]
  rfl
theorem results_row_tmp {P : Program} {fn : Func} {p q : Tmp} {ty : TypeId} (h : fn.results = #[.cell p ty, .tmp q]) (tmps : Array Value) (w : World) (g : Nat) (t : TypeId) (cs : Array Value) (fr : Nat × Nat) (d : TypeDesc) (v : Value)
    (hp : tmps.getD p undef = .pointer (some ⟨g, 0, none⟩)) (hq : tmps.getD q undef = v) (hg : w.heap[g]? = some (.cells cs t fr))
    (hu : P.underlying ty = some d) (hd : (match d with | .struct _ | .array _ _ => true | _ => false) = true) (hi : (P.info? ty).map (·.size) = some cs.size) :
    (results fn tmps).run P w = .ok (.tuple #[.agg cs, v]) w := by
  have hp' : tmps[p]?.getD undef = .pointer (some ⟨g, 0, none⟩) := by simpa using hp
  have hq' : tmps[q]?.getD undef = v := by simpa using hq
  simp [results, h, hp', hq', asAddr, run_loadVar_row w g t ty cs fr d hg hu hd hi]
end Go.Dio

namespace Go.Dio
open Go
theorem at_op {P : Program} {ops : Array Oper} {Q : Exit → Act → World → Prop} {rest : List Oper} {a : Act} {w : World} (n : Nat) {op : Op} {ty : TypeId} {pos : String} {af : Array Edge} {g : Option (Nat × Bool)}
    (h : wpList P ops Q (⟨some n, op, ty, pos, af, g⟩ :: rest) a w) : wpList P ops Q (⟨some n, op, ty, pos, af, g⟩ :: rest) a w := h
theorem at_st {P : Program} {ops : Array Oper} {Q : Exit → Act → World → Prop} {rest : List Oper} {a : Act} {w : World} (n : Nat) {d : Option Tmp} {t : TypeId} {y : Operand} {ty : TypeId} {pos : String} {af : Array Edge} {g : Option (Nat × Bool)}
    (h : wpList P ops Q (⟨d, .store t (.tmp n) y, ty, pos, af, g⟩ :: rest) a w) : wpList P ops Q (⟨d, .store t (.tmp n) y, ty, pos, af, g⟩ :: rest) a w := h
end Go.Dio

namespace Go.Dio
open Go Go.RowKit

theorem run_storeAt_int {P : Program} (w : World) (b o : Nat) (ty : TypeId) (k : IntKind) (n : Int) (ht : w.there b o 1) (hi : (P.info? ty).map (·.size) = some 1) :
    (Instr.storeAt ty (.pointer (some ⟨b, o, none⟩)) (.int k n)).run P w = .ok () (w.setCell ⟨b, o, none⟩ (.int k n)) := by
  have := run_storeCells_cells (P := P) b o [.int k n] 0 w (fun j hj => by simpa using (ht j (by simpa using hj)).1) (fun j hj => by simpa using (ht j (by simpa using hj)).2)
    (fun v hv => by simp at hv; subst hv; rfl)
  cases hq : P.info? ty with
  | none => simp [hq] at hi
  | some i =>
    have hs : i.size = 1 := by simpa [hq] using hi
    simp only [Nat.add_zero] at this
    simp only [Instr.storeAt, Instr.sureAddr, Sem.run_bind, Sem.run_pure, Result.andThen_ok]
    simpa [storeVar, sizeOf, typeInfo, hq, Value.cells, hs, World.setCells] using this

theorem L_store_int {P : Program} {ops : Array Oper} {rest : List Oper} {o : Oper} {a : Act} {w : World} {Q : Exit → Act → World → Prop} (ty : TypeId) (x y : Operand) (ho : o.op = .store ty x y) (hw : Region.wanted o (yielded ops a.tmps) = true)
    (b off : Nat) (hx : a.eval x = .pointer (some ⟨b, off, none⟩)) (c : List Value) (t : TypeId) (hb : w.heap[b]? = some (.cells c.toArray t (0, 0))) (k : IntKind) (n : Int) (hy : a.eval y = .int k n)
    (hi : (P.info? ty).map (·.size) = some 1) (hle : off < c.length)
    (h : ∀ w', w'.heap[b]? = some (.cells (c.set off (.int k n)).toArray t (0, 0)) → Upd [b] w w' → w'.heap.size = w.heap.size → wpList P ops Q rest (a.put o.dst undef) w') : wpList P ops Q (o :: rest) a w :=
  wpList_step fun K hK => by
    rw [if_pos hw]
    have hth : w.there b off 1 := fun j hj => by
      refine ⟨?_, free_of hb _⟩
      rw [cells_of hb]
      simp only [List.getElem?_toArray, Option.isSome_iff_exists]
      exact ⟨_, List.getElem?_eq_getElem (by omega)⟩
    unfold Oper.wp execOp
    simp only [ho, hx, hy, Sem.run_bind, run_storeAt_int w b off ty k n hth hi, Result.andThen_ok, Sem.run_pure]
    refine hK _ _ (h _ ?_ ((Upd.refl [b] w).setCell (p := ⟨b, off, none⟩) (by simp) _) (by simp [World.setCell]))
    rw [heap_setCell_eq hb]; simp
end Go.Dio

namespace Go.Dio
open Go Go.RowKit
theorem run_storeAt_one {P : Program} (w : World) (b o : Nat) (ty : TypeId) (v : Value) (hv : v.cells = #[v]) (h1 : v.oneCell' = true) (ht : w.there b o 1) (hi : (P.info? ty).map (·.size) = some 1) :
    (Instr.storeAt ty (.pointer (some ⟨b, o, none⟩)) v).run P w = .ok () (w.setCell ⟨b, o, none⟩ v) := by
  have := run_storeCells_cells (P := P) b o [v] 0 w (fun j hj => by simpa using (ht j (by simpa using hj)).1) (fun j hj => by simpa using (ht j (by simpa using hj)).2)
    (fun v' hv' => by simp at hv'; subst hv'; exact h1)
  cases hq : P.info? ty with
  | none => simp [hq] at hi
  | some i =>
    have hs : i.size = 1 := by simpa [hq] using hi
    simp only [Nat.add_zero] at this
    simp only [Instr.storeAt, Instr.sureAddr, Sem.run_bind, Sem.run_pure, Result.andThen_ok]
    simpa [storeVar, sizeOf, typeInfo, hq, hv, hs, World.setCells] using this
theorem L_store_one {P : Program} {ops : Array Oper} {rest : List Oper} {o : Oper} {a : Act} {w : World} {Q : Exit → Act → World → Prop} (ty : TypeId) (x y : Operand) (ho : o.op = .store ty x y) (hw : Region.wanted o (yielded ops a.tmps) = true)
    (b off : Nat) (hx : a.eval x = .pointer (some ⟨b, off, none⟩)) (c : List Value) (t : TypeId) (hb : w.heap[b]? = some (.cells c.toArray t (0, 0))) (v : Value) (hy : a.eval y = v) (hv : v.cells = #[v]) (h1 : v.oneCell' = true)
    (hi : (P.info? ty).map (·.size) = some 1) (hle : off < c.length)
    (h : ∀ w', w'.heap[b]? = some (.cells (c.set off v).toArray t (0, 0)) → Upd [b] w w' → w'.heap.size = w.heap.size → wpList P ops Q rest (a.put o.dst undef) w') : wpList P ops Q (o :: rest) a w :=
  wpList_step fun K hK => by
    rw [if_pos hw]
    have hth : w.there b off 1 := fun j hj => by
      refine ⟨?_, free_of hb _⟩
      rw [cells_of hb]
      simp only [List.getElem?_toArray, Option.isSome_iff_exists]
      exact ⟨_, List.getElem?_eq_getElem (by omega)⟩
    unfold Oper.wp execOp
    simp only [ho, hx, hy, Sem.run_bind, run_storeAt_one w b off ty v hv h1 hth hi, Result.andThen_ok, Sem.run_pure]
    refine hK _ _ (h _ ?_ ((Upd.refl [b] w).setCell (p := ⟨b, off, none⟩) (by simp) _) (by simp [World.setCell]))
    rw [heap_setCell_eq hb]; simp
end Go.Dio
