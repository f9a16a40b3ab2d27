/- General words: worlds in which all old blocks but some stay; blocks that are known whole. -/
import Derived.WalkKit
import Derived.WalkSpells
import Derived.WalkLawsBesides
import Derived.Deep.QuietTactic
import Derived.BigQuiet
import Derived.Deep.RegionHeld3
import Derived.Deep.WholeRow
import Derived.Deep.MidRow
import Derived.Lib.Hide
import Derived.Deep.CutBlock
import Derived.Deep.DeepCutAuto
import Derived.Deep.RegionWith
import Derived.Below
import Derived.Maps.AppendAt
import Derived.Deep.AppendLies
import Derived.OwnWalk
namespace Go.Dio
open Go.RowKit

/-- All old blocks but those of S stay as they were; the streams too. -/
structure Upd (S : List Nat) (w w' : World) : Prop where
  os : w'.os = w.os
  tape : w'.tape = w.tape
  output : w'.output = w.output
  size : w.heap.size ≤ w'.heap.size
  block : ∀ k, k < w.heap.size → k ∉ S → w'.heap[k]? = w.heap[k]?

theorem Upd.refl (S : List Nat) (w : World) : Upd S w w := ⟨rfl, rfl, rfl, Nat.le_refl _, fun _ _ _ => rfl⟩
theorem Upd.trans {S : List Nat} {a b c : World} (h : Upd S a b) (k : Upd S b c) : Upd S a c :=
  ⟨k.os.trans h.os, k.tape.trans h.tape, k.output.trans h.output, Nat.le_trans h.size k.size, fun i hi hs => (k.block i (Nat.lt_of_lt_of_le hi h.size) hs).trans (h.block i hi hs)⟩
theorem Upd.mono {S T : List Nat} {a b : World} (h : Upd S a b) (hs : ∀ k ∈ S, k < a.heap.size → k ∈ T) : Upd T a b :=
  ⟨h.os, h.tape, h.output, h.size, fun i hi hT => h.block i hi (fun hS => hT (hs i hS hi))⟩
theorem Upd.then {S T : List Nat} {a b c : World} (h : Upd S a b) (k : Upd T b c) (ht : ∀ x ∈ T, x < a.heap.size → x ∈ S) : Upd S a c :=
  ⟨k.os.trans h.os, k.tape.trans h.tape, k.output.trans h.output, Nat.le_trans h.size k.size, fun i hi hs =>
    (k.block i (Nat.lt_of_lt_of_le hi h.size) (fun hT => hs (ht i hT hi))).trans (h.block i hi hs)⟩
theorem Upd.below {w w' : World} (h : Upd [] w w') : Below w.heap.size w w' := ⟨h.os, h.tape, h.output, h.size, fun k hk => h.block k hk (by simp)⟩
theorem Upd.of_below {S : List Nat} {w w' : World} (h : Below w.heap.size w w') : Upd S w w' := ⟨h.os, h.tape, h.output, h.size, fun k hk _ => h.block k hk⟩
theorem Upd.drew {S : List Nat} {a w : World} (h : Upd S a w) : Upd S a w.drew := ⟨h.os, h.tape, h.output, h.size, h.block⟩
theorem Upd.drewN {S : List Nat} {a w : World} (n : Nat) (h : Upd S a w) : Upd S a (w.drewN n) := ⟨h.os, h.tape, h.output, h.size, h.block⟩
theorem Upd.alloc {S : List Nat} {a w : World} (h : Upd S a w) (o : Obj) : Upd S a (w.alloc o) :=
  h.trans ⟨rfl, rfl, rfl, by simp, fun k hk _ => Below.heap_alloc _ _ _ hk⟩
theorem Upd.setCell {S : List Nat} {a w : World} (h : Upd S a w) {p : Addr} (hp : p.block < a.heap.size → p.block ∈ S) (u : Value) : Upd S a (w.setCell p u) :=
  ⟨h.os, h.tape, h.output, by simpa [World.setCell] using h.size, fun k hk hs => by
    rw [Below.heap_setCell w p u k (by intro e; subst e; exact hs (hp hk))]; exact h.block k hk hs⟩

/-- A block that is known whole and was not written is known in the new world. -/
theorem Upd.keep {S : List Nat} {w w' : World} {b : Nat} {o : Obj} (h : Upd S w w') (hb : w.heap[b]? = some o) (hs : b ∉ S) : w'.heap[b]? = some o := by
  rw [h.block b (lt_of_block hb) hs, hb]

theorem cells_of {w : World} {b : Nat} {c : Array Value} {t : TypeId} {fr : Nat × Nat} (h : w.heap[b]? = some (.cells c t fr)) : ∀ o, w.cell? ⟨b, o, none⟩ = c[o]? :=
  fun o => by simp [World.cell?, h]
theorem free_of {w : World} {b : Nat} {c : Array Value} {t : TypeId} (h : w.heap[b]? = some (.cells c t (0, 0))) : ∀ o, w.frozen? ⟨b, o, none⟩ = false :=
  fun o => by simp [World.frozen?, h]
theorem heap_old {w : World} {b : Nat} {x : Obj} (h : w.heap[b]? = some x) (o : Obj) : (w.alloc o).heap[b]? = some x := by
  rw [Below.heap_alloc _ _ _ (lt_of_block h), h]
theorem heap_setCell_ne {w : World} {b : Nat} (a : Addr) (v : Value) (h : b ≠ a.block) : (w.setCell a v).heap[b]? = w.heap[b]? := Below.heap_setCell _ _ _ _ h
theorem heap_setCell_eq {w : World} {b : Nat} {c : Array Value} {t : TypeId} {fr : Nat × Nat} (h : w.heap[b]? = some (.cells c t fr)) (o : Nat) (v : Value) :
    (w.setCell ⟨b, o, none⟩ v).heap[b]? = some (.cells (c.setIfInBounds o v) t fr) := by
  simp [World.setCell, Array.getElem?_modify, h]

/-- Numbers as the cells of a row. -/
def nums (k : IntKind) (l : List Nat) : Array Value := (l.map fun (n : Nat) => Value.int k (n : Int)).toArray
theorem nums_get (k : IntKind) (l : List Nat) (i : Nat) (h : i < l.length) : (nums k l)[i]? = some (.int k ((l.getD i 0 : Nat) : Int)) := by
  simp [nums, h]
theorem nums_set (k : IntKind) (l : List Nat) (i n : Nat) : (nums k l).setIfInBounds i (.int k (n : Int)) = nums k (l.set i n) := by
  simp [nums, List.map_set]
theorem nums_size (k : IntKind) (l : List Nat) : (nums k l).size = l.length := by simp [nums]

theorem cast_eq_b {a b : Nat} (h : a = b) : ((a : Int) == (b : Int)) = true ∧ ((a : Int) != (b : Int)) = false := by subst h; simp
theorem cast_ne_b {a b : Nat} (h : ¬ a = b) : ((a : Int) == (b : Int)) = false ∧ ((a : Int) != (b : Int)) = true := by
  have : ¬ (a : Int) = (b : Int) := by omega
  simp [this]

/-- A comparison of two whole numbers, in each of a walk's spellings. -/
theorem dec_lt {a b : Nat} (h : a < b) : decide ((a : Int) < (b : Int)) = true ∧ decide ((b : Int) ≤ (a : Int)) = false ∧ decide (a < b) = true ∧ decide (b ≤ a) = false :=
  ⟨decide_eq_true (by omega), decide_eq_false (by omega), decide_eq_true h, decide_eq_false (by omega)⟩
theorem dec_ge {a b : Nat} (h : b ≤ a) : decide ((a : Int) < (b : Int)) = false ∧ decide ((b : Int) ≤ (a : Int)) = true ∧ decide (a < b) = false ∧ decide (b ≤ a) = true :=
  ⟨decide_eq_false (by omega), decide_eq_true (by omega), decide_eq_false (by omega), decide_eq_true h⟩

/-- The number at a place of a list (a word that the walk's simp does not open). -/
def nth (l : List Nat) (i : Nat) : Nat := l.getD i 0
theorem nth_eq (l : List Nat) (i : Nat) (h : i < l.length) : nth l i = l[i] := by simp [nth, h]
theorem nums_nth (k : IntKind) (l : List Nat) (i : Nat) (h : i < l.length) : (nums k l)[i]? = some (.int k ((nth l i : Nat) : Int)) := nums_get k l i h

/-- A slice of whole numbers reads as a list. -/
def NumsAt (w : World) (k : IntKind) (A : Option Addr) (l : List Nat) : Prop :=
  0 < l.length → ∃ b o, A = some ⟨b, o, none⟩ ∧ b < w.heap.size ∧ ∀ i, i < l.length → w.cell? ⟨b, o + i, none⟩ = some (.int k ((nth l i : Nat) : Int))

theorem NumsAt.of_upd {w w' : World} {k : IntKind} {A : Option Addr} {l : List Nat} (h : NumsAt w k A l) (hu : Upd [] w w') : NumsAt w' k A l := fun h0 => by
  obtain ⟨b, o, hA, hb, hc⟩ := h h0
  exact ⟨b, o, hA, Nat.lt_of_lt_of_le hb hu.size, fun i hi => by rw [← hc i hi]; exact World.cell?_of_block (w := w) (hu.block b hb (by simp))⟩

theorem NumsAt.take {w : World} {k : IntKind} {A : Option Addr} {l : List Nat} (h : NumsAt w k A l) (n : Nat) : NumsAt w k A (l.take n) := fun h0 => by
  have h1 : 0 < l.length := by rw [List.length_take] at h0; omega
  obtain ⟨b, o, hA, hb, hc⟩ := h h1
  refine ⟨b, o, hA, hb, fun i hi => ?_⟩
  rw [List.length_take] at hi
  rw [hc i (by omega), nth_eq l i (by omega), nth_eq _ i (by rw [List.length_take]; omega)]
  simp

/-- A row out of the middle of a block, as the walk's simp asks it. -/
theorem run_cellsFrom {P : Program} {w : World} {b o n : Nat} {c : Array Value} (hc : w.rangeAt b o c.toList) (hn : c.size = n) :
    (loadCellsFrom ⟨b, o, none⟩ 0 n #[]).run P w = .ok c w := by
  subst hn
  have := run_loadCells_list (P := P) w ⟨b, o, none⟩ c.toList (fun j v hv => by rw [Addr.add_mid]; exact hc j v hv)
  simpa [loadCells] using this

theorem row_range {w : World} {b : Nat} {c : Array Value} {t : TypeId} {fr : Nat × Nat} (h : w.heap[b]? = some (.cells c t fr)) : w.rangeAt b 0 c.toList := fun j v hv => by
  rw [cell_of_row w b (0 + j) c t fr h]
  simpa using hv

/-- The load of a whole row out of a block, at the list of a region's operations. -/
theorem L_load {P : Program} {ops : Array Oper} {rest : List Oper} {o : Oper} {a : Act} {w : World} {Q : Exit → Act → World → Prop} (ty : TypeId) (x : Operand) (ho : o.op = .load ty x) (hw : Region.wanted o (yielded ops a.tmps) = true)
    (b off : Nat) (hx : a.eval x = .pointer (some ⟨b, off, none⟩)) (c : Array Value) (hc : w.rangeAt b off c.toList) {d : TypeDesc}
    (hu : P.underlying ty = some d) (hd : d.isRow = true) (n : Nat) (hi : (P.info? ty).map (·.size) = some n) (hn : c.size = n)
    (h : wpList P ops Q rest (a.put o.dst (.agg c)) w) : wpList P ops Q (o :: rest) a w :=
  wpList_step fun K hK => by
    rw [if_pos hw]
    have h1 := wp_load_mid (P := P) (Q := Q) (K := K) ty x ho b off hx c.toList d hc hu hd (by rw [hi]; simp [hn]) (by simpa using hK _ _ h)
    exact h1

/-- The same in a region that draws its order: the row is there in every world of the class. -/
theorem Q_load {P : Program} {ops : Array Oper} {rest : List Oper} {o : Oper} {a : Act} {C : World → Prop} {Q : Act → Prop} (ty : TypeId) (x : Operand) (ho : o.op = .load ty x) (hw : Region.wanted o (yielded ops a.tmps) = true)
    (b off : Nat) (hx : a.eval x = .pointer (some ⟨b, off, none⟩)) (c : Array Value) (hc : ∀ w, C w → w.rangeAt b off c.toList) {d : TypeDesc}
    (hu : P.underlying ty = some d) (hd : d.isRow = true) (n : Nat) (hi : (P.info? ty).map (·.size) = some n) (hn : c.size = n)
    (h : wpQuiet P ops C Q rest (a.put o.dst (.agg c))) : wpQuiet P ops C Q (o :: rest) a :=
  wpQuiet_step fun K hK => by
    rw [if_pos hw]
    refine ⟨.agg c, fun w hCw => ?_, hK _ h⟩
    have := run_loadVar_mid (P := P) w b off ty c.toList d (hc w hCw) hu hd (by rw [hi]; simp [hn])
    simp only [Array.toArray_toList] at this
    unfold Oper.quietAt execOp
    simp only [ho, hx, Instr.loadAt, Instr.sureAddr, Sem.run_bind, Sem.run_pure, Result.andThen_ok, this]
    exact ⟨rfl, rfl⟩

/-- The worlds that differ from w in nothing old but the blocks of S. -/
def Near (S : List Nat) (w : World) : Type := { w' : World // Upd S w w' }
instance (S : List Nat) (w : World) : Nonempty (Near S w) := ⟨⟨w, Upd.refl S w⟩⟩
def InNear (S : List Nat) (w : World) (w' : World) : Prop := ∃ x : Near S w, w' = x.1
theorem InNear.of_upd {S : List Nat} {w w' : World} (h : Upd S w w') : InNear S w w' := ⟨⟨w', h⟩, rfl⟩
theorem InNear.upd {S : List Nat} {w w' : World} (h : InNear S w w') : Upd S w w' := by obtain ⟨x, rfl⟩ := h; exact x.2

theorem Calls.near {P : Program} {f : FuncId} {args : Array Value} {S : List Nat} {w : World} {x : Near S w} {v : Value} (h : Calls P f args x.1 fun e w' => e = .returned v ∧ Below x.1.heap.size x.1 w') :
    Calls P f args x.1 fun e w'' => e = .returned v ∧ ∃ y : Near S w, w'' = y.1 := h.mono fun _ w' ⟨he, hw⟩ => ⟨he, ⟨w', x.2.trans (Upd.of_below hw)⟩, rfl⟩

/-- A region that draws its order, all of whose operations only read and whose calls leave what is old but S. -/
theorem wp_region_near (S : List Nat) {P : Program} {id : Nat} {Q : Exit → Act → World → Prop} {a : Act} {w : World} {l : List Oper} (hm : P.follows .mixedOrders = true) (hB : Region.lexB .any l.toArray = true)
    (h : wpQuiet P l.toArray (fun w' => ∃ x : Near S w, w' = x.1) (fun a' => ∀ x : Near S w, Q .normal a' x.1) l a) : (Code.region id l.toArray true).wp P Q a w := by
  refine wp_region_quiet (C := fun w' => ∃ x : Near S w, w' = x.1) hm hB ⟨⟨w.drew, (Upd.refl S w).drew⟩, rfl⟩ ?_
  have e : (fun a' => ∀ w', (∃ x : Near S w, w' = x.1) → Q .normal a' w') = (fun a' => ∀ x : Near S w, Q .normal a' x.1) := by
    funext a'
    exact propext ⟨fun h x => h _ ⟨x, rfl⟩, fun h w' ⟨x, hx⟩ => by rw [hx]; exact h x⟩
  rw [e]
  exact h

theorem all_range_nth : ∀ (xs ys : List Nat), xs.length = ys.length → ((List.range xs.length).all fun i => decide (nth xs i = nth ys i)) = decide (xs = ys)
  | [], [], _ => rfl
  | x :: xs, y :: ys, h => by
    have ih := all_range_nth xs ys (by simpa using h)
    rw [List.length_cons, List.range_succ_eq_map, List.all_cons, List.all_map]
    have e : (fun i => decide (nth (x :: xs) i = nth (y :: ys) i)) ∘ Nat.succ = fun i => decide (nth xs i = nth ys i) := by
      funext i; simp [nth, Function.comp]
    rw [e, ih]
    rw [Bool.eq_iff_iff]
    simp [nth]
  | [], _ :: _, h => by simp at h
  | _ :: _, [], h => by simp at h

/-- '==' on two arrays of whole numbers. -/
theorem run_equalIn_nums {P : Program} (w : World) (d : Nat) (t e : TypeId) (n : Nat) (k : IntKind) (ht : P.underlying t = some (.array n e)) (he : P.underlying e = some (.int k)) (hsz : ∀ w, (sizeOf e).run P w = .ok 1 w)
    (xs ys : List Nat) (hx : xs.length = n) (hy : ys.length = n) :
    (Op.equalIn (d + 2) t (.agg (nums k xs)) (.agg (nums k ys))).run P w = .ok (decide (xs = ys)) w := by
  rw [← all_range_nth xs ys (hx.trans hy.symm), hx, List.range_eq_range', Op.equalIn]
  simp only [Sem.run_bind, run_underlying ht, Result.andThen_ok, hsz, Std.Legacy.Range.forIn_eq_forIn_range', Std.Legacy.Range.size, Nat.sub_zero, Nat.add_sub_cancel, Nat.div_one]
  have hl : ∀ i ∈ List.range' 0 n 1, i < n := fun i hi => by simpa using (List.mem_range'_1.1 hi).2
  generalize List.range' 0 n 1 = l at hl ⊢
  induction l with
  | nil => simp
  | cons i l ih =>
    have hi : i < n := hl i (by simp)
    have px : (part e (nums k xs) (i * 1)).run P w = .ok (.int k ((nth xs i : Nat) : Int)) w := by
      simp [part, isAgg, run_underlying he, nums_nth k xs i (by omega)]
    have py : (part e (nums k ys) (i * 1)).run P w = .ok (.int k ((nth ys i : Nat) : Int)) w := by
      simp [part, isAgg, run_underlying he, nums_nth k ys i (by omega)]
    have pe : (Op.equalIn (d + 1) e (.int k ((nth xs i : Nat) : Int)) (.int k ((nth ys i : Nat) : Int))).run P w = .ok (decide (nth xs i = nth ys i)) w := by
      rw [run_equalIn_int w d e k k _ _ he]
      congr 1
      by_cases h : nth xs i = nth ys i
      · rw [(cast_eq_b h).1]; simp [h]
      · rw [(cast_ne_b h).1]; simp [h]
    simp only [List.forIn_cons, Sem.run_bind, px, py, pe, Result.andThen_ok, List.all_cons]
    cases hb : decide (nth xs i = nth ys i)
    · simp
    · simp only [Bool.not_true, Bool.false_eq_true, if_false, Sem.run_pure, Result.andThen_ok, Bool.true_and]
      exact ih fun j hj => hl j (by simp [hj])

theorem run_eql_nums {P : Program} (t e : TypeId) (n : Nat) (k : IntKind) (ht : P.underlying t = some (.array n e)) (he : P.underlying e = some (.int k)) (hsz : ∀ w, (sizeOf e).run P w = .ok 1 w)
    (xs ys : List Nat) (hx : xs.length = n) (hy : ys.length = n) (w : World) :
    (binOp .eql t (.agg (nums k xs)) (.agg (nums k ys))).run P w = .ok (.bool (decide (xs = ys))) w := by
  rw [run_eql_struct, run_equalIn_nums w 9998 t e n k ht he hsz xs ys hx hy]
  rfl

theorem numsAt_new (w : World) (k : IntKind) (l : List Nat) (t : TypeId) : NumsAt (w.alloc (.cells (nums k l) t)) k (some ⟨w.heap.size, 0, none⟩) l := fun _ =>
  ⟨w.heap.size, 0, rfl, by simp, fun i hi => by
    rw [cell_of_row _ _ (0 + i) (nums k l) t (0, 0) (Go.heap_alloc_last w _), Nat.zero_add]
    exact nums_nth k l i hi⟩
theorem numsAt_nil (w : World) (k : IntKind) (A : Option Addr) : NumsAt w k A [] := fun h => absurd h (by simp)
theorem drewN_below (w : World) (n : Nat) : Below w.heap.size w (w.drewN n) := ⟨rfl, rfl, rfl, Nat.le_refl _, fun _ _ => rfl⟩
theorem upd_drewN (S : List Nat) (w : World) (n : Nat) : Upd S w (w.drewN n) := ⟨rfl, rfl, rfl, Nat.le_refl _, fun _ _ _ => rfl⟩

/-! min and max of two whole numbers, as rules for a walk. -/
theorem min2_nat (k : IntKind) (x y n : Int) (h : min x y = n) : Builtin.min2 (.int k x) (.int k y) = pure (.int k n) := by
  simp only [Builtin.min2]
  split <;> (congr 2; omega)
theorem max2_nat (k : IntKind) (x y n : Int) (h : max x y = n) : Builtin.max2 (.int k x) (.int k y) = pure (.int k n) := by
  simp only [Builtin.max2, gt_iff_lt]
  split <;> (congr 2; omega)
theorem max_pair (ats : Array TypeId) (ty : TypeId) (a b : Value) : Builtin.max_ ats ty #[a, b] = (Builtin.max2 a b >>= fun s => pure s) := by simp only [Builtin.max_, List.foldlM_cons, List.foldlM_nil]
theorem min_pair (ats : Array TypeId) (ty : TypeId) (a b : Value) : Builtin.min_ ats ty #[a, b] = (Builtin.min2 a b >>= fun s => pure s) := by simp only [Builtin.min_, List.foldlM_cons, List.foldlM_nil]
attribute [go_sem] max_pair min_pair
end Go.Dio

namespace Go.Dio
open Go.RowKit

/-- The cells of a slice that is read: nil has none. -/
def SrcAt (w : World) (A : Option Addr) (cs : List Value) : Prop := cs ≠ [] → ∃ b o, A = some ⟨b, o, none⟩ ∧ w.rangeAt b o cs

section
variable {P : Program} (w : World)

theorem append_nothing (base t ty e : Nat) (i : TypeInfo) (size : Nat) (ht : P.underlying t = some (.slice e)) (hi : P.info? e = some i)
    (v : Value) (n : Nat) (xs : List Value) (hown : w.ownsRow base e size v n xs) (A : Option Addr) (c : Nat) : ∃ v', (Builtin.append_ #[t, t] ty #[v, .slice A 0 c]).run P w = .ok v' w ∧ v' = v := by
  refine ⟨v, ?_, rfl⟩
  have hf : (Builtin.firstCells i.size 0 (.slice A 0 c)).run P w = .ok #[] w := by
    cases A with
    | none => simp [Builtin.firstCells]
    | some a => simp [Builtin.firstCells, loadCells, loadCellsFrom]
  rcases hown.2 with ⟨rfl, rfl⟩ | ⟨g, cap, cur, rfl, _, _, hnc, _⟩
  · simp [Builtin.append_, run_underlying ht, sizeOf, typeInfo, hi, Builtin.lenOf, hf]
  · simp [Builtin.append_, run_underlying ht, sizeOf, typeInfo, hi, Builtin.lenOf, hf, hnc, storeCells]

theorem run_append_src (base t ty e : Nat) (i : TypeInfo) (z : Value) (size bytes : Nat) (ht : P.underlying t = some (.slice e)) (hi : P.info? e = some i) (hz : i.zero = some z)
    (hsize : i.size = size) (hby : i.bytes = bytes) (hzs : z.cells.size = size) (hsz : 0 < size)
    (v : Value) (n : Nat) (xs : List Value) (hown : w.ownsRow base e size v n xs)
    (A : Option Addr) (m c : Nat) (news : List Value) (hl : news.length = m * size) (hr : SrcAt w A news) (h1 : ∀ u ∈ news, u.oneCell' = true)
    (h63 : n + m ≤ maxLen) (hbytes : (n + m) * bytes ≤ 140737488355328) (hbase : base ≤ w.heap.size) :
    ∃ v' w', (Builtin.append_ #[t, t] ty #[v, .slice A m c]).run P w = .ok v' w' ∧ w'.ownsRow base e size v' (n + m) (xs ++ news) ∧ w.grownBy w' v.ownBlock ∧
      (v'.ownBlock = v.ownBlock ∨ v'.ownBlock = some w.heap.size) := by
  rcases Nat.eq_zero_or_pos m with h0 | h0
  · subst h0
    obtain rfl : news = [] := List.eq_nil_of_length_eq_zero (by simpa using hl)
    obtain ⟨v', hrun, rfl⟩ := append_nothing (P := P) w base t ty e i size ht hi v n xs hown A c
    exact ⟨_, w, hrun, by simpa using hown, World.grownBy.refl w _, .inl rfl⟩
  · have hne : news ≠ [] := by
      rintro rfl
      have : 0 < m * size := Nat.mul_pos h0 hsz
      simp at hl
      omega
    obtain ⟨b, o, rfl, hc⟩ := hr hne
    obtain ⟨v', w', hrun, h2, h3, _, h5⟩ := run_append_own_at (P := P) w base t ty e i z size bytes ht hi hz hsize hby hzs hsz v n xs hown ⟨b, o, none⟩ m c news hl (fun j u hu => by rw [Addr.add_mid]; exact hc j u hu) h1 h63 hbytes hbase
    exact ⟨v', w', hrun, h2, h3, h5⟩

/-- At the list of a region's operations. -/
theorem L_append {ops : Array Oper} {rest : List Oper} {o : Oper} {a : Act} {Q : Exit → Act → World → Prop} (s x : Operand) (t : TypeId)
    (ho : o.op = .call { callee := .builtin .append, args := #[s, x], argTypes := #[t, t] }) (hw : Region.wanted o (yielded ops a.tmps) = true)
    (base e : Nat) (z : Value) (size bytes : Nat) (ht : P.underlying t = some (.slice e)) (hi : (P.info? e).map (fun i => (i.zero, i.size, i.bytes)) = some (some z, size, bytes)) (hzs : z.cells.size = size) (hsz : 0 < size)
    (v : Value) (n : Nat) (xs : List Value) (hs : a.eval s = v) (hown : w.ownsRow base e size v n xs)
    (A : Option Addr) (m c : Nat) (news : List Value) (hx : a.eval x = .slice A m c) (hl : news.length = m * size) (hr : SrcAt w A news) (h1 : ∀ u ∈ news, u.oneCell' = true)
    (h63 : n + m ≤ maxLen) (hbytes : (n + m) * bytes ≤ 140737488355328) (hbase : base ≤ w.heap.size)
    (h : ∀ v' w', w'.ownsRow base e size v' (n + m) (xs ++ news) → w.grownBy w' v.ownBlock → (v'.ownBlock = v.ownBlock ∨ v'.ownBlock = some w.heap.size) → wpList P ops Q rest (a.put o.dst v') w') :
    wpList P ops Q (o :: rest) a w := by
  obtain ⟨i, hi1, hz, hsize, hby⟩ : ∃ i, P.info? e = some i ∧ i.zero = some z ∧ i.size = size ∧ i.bytes = bytes := by
    cases hq : P.info? e with
    | none => simp [hq] at hi
    | some i => simp [hq] at hi; exact ⟨i, rfl, hi.1, hi.2.1, hi.2.2⟩
  obtain ⟨v', w', hrun, h2, h3, h4⟩ := run_append_src (P := P) w base t o.type e i z size bytes ht hi1 hz hsize hby hzs hsz v n xs hown A m c news hl hr h1 h63 hbytes hbase
  refine wpList_step fun K hK => ?_
  rw [if_pos hw]
  unfold Oper.wp execOp
  simp only [ho, resolve, invoke, builtin, Sem.run_bind, Sem.run_pure, Result.andThen_ok, List.map_toArray, List.map_cons, List.map_nil, hs, hx, hrun]
  exact hK _ _ (h v' w' h2 h3 h4)
end

def vals (k : IntKind) (l : List Nat) : List Value := l.map fun (n : Nat) => Value.int k (n : Int)
theorem vals_length (k : IntKind) (l : List Nat) : (vals k l).length = l.length := by simp [vals]
theorem vals_append (k : IntKind) (l m : List Nat) : vals k (l ++ m) = vals k l ++ vals k m := by simp [vals]
theorem vals_one (k : IntKind) (l : List Nat) : ∀ u ∈ vals k l, u.oneCell' = true := by
  intro u hu
  simp only [vals, List.mem_map] at hu
  obtain ⟨n, _, rfl⟩ := hu
  rfl
theorem srcAt_nums {w : World} {k : IntKind} {A : Option Addr} {l : List Nat} (h : NumsAt w k A l) : SrcAt w A (vals k l) := fun hne => by
  have h0 : 0 < l.length := by
    rcases Nat.eq_zero_or_pos l.length with h0 | h0
    · exact absurd (by rw [List.eq_nil_of_length_eq_zero h0]; rfl) hne
    · exact h0
  obtain ⟨b, o, hA, _, hc⟩ := h h0
  refine ⟨b, o, hA, fun j v hv => ?_⟩
  have hj : j < l.length := by have := (List.getElem?_eq_some_iff.1 hv).1; rwa [vals_length] at this
  rw [hc j hj, ← hv, nth_eq l j hj]
  simp [vals, hj]

/-- A row of the call's own, read as numbers. -/
theorem nums_of_own {w : World} {base e : Nat} {k : IntKind} {v : Value} {n : Nat} {l : List Nat} (h : w.ownsRow base e 1 v n (vals k l)) :
    ∃ A cap, v = .slice A l.length cap ∧ n = l.length ∧ l.length ≤ cap ∧ cap ≤ 9223372036854775807 ∧ NumsAt w k A l ∧ ∀ a, A = some a → base ≤ a.block := by
  have hn : n = l.length := by have := h.1; rw [vals_length] at this; omega
  rcases h.2 with ⟨rfl, h0⟩ | ⟨g, cap, cur, rfl, hg, hh, hc1, hc2, _, _⟩
  · exact ⟨none, 0, by rw [← hn, h0], hn, by omega, by omega, fun h1 => by omega, fun a ha => by cases ha⟩
  · refine ⟨some ⟨g, 0, none⟩, cap, by rw [hn], hn, by omega, hc2, fun _ => ⟨g, 0, rfl, (h.lt g rfl).2, fun i hi => ?_⟩, fun a ha => by cases ha; exact hg⟩
    have := h.cells (g := g) rfl i (.int k ((nth l i : Nat) : Int)) (by rw [nth_eq l i hi]; simp [vals, hi])
    rw [Addr.add_mid] at this
    exact this

theorem Upd.grown {S : List Nat} {a w w' : World} {row : Option Nat} (h : Upd S a w) (hg : w.grownBy w' row) (hr : ∀ k, row = some k → k < a.heap.size → k ∈ S) : Upd S a w' :=
  ⟨hg.os.trans h.os, hg.tape.trans h.tape, hg.output.trans h.output, Nat.le_trans h.size hg.size, fun k hk hs =>
    (hg.block k (Nat.lt_of_lt_of_le hk h.size) (fun e => hs (hr k e.symm hk))).trans (h.block k hk hs)⟩
end Go.Dio
