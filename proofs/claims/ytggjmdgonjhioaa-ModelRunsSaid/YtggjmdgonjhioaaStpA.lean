/- One instruction: traps, registers written, jumps: the code's. -/
import Derived.Test.YtggjmdgonjhioaaTrp
import Derived.Test.YtggjmdgonjhioaaDecE
namespace Go.Proofs.Ytggjmdgonjhioaa
open Go.RowKit Go.Dio
set_option linter.unusedSimpArgs false
set_option linter.unusedVariables false

def csV (cs : List Nat) : List Value := [.int .u32 (nth cs 0 : Int), .int .u32 (nth cs 1 : Int), .int .u32 (nth cs 2 : Int), .int .u32 (nth cs 3 : Int), .int .u32 (nth cs 4 : Int)]
def MadeV.cells (m : MadeV) : List Value := [.int .u32 m.r.pc, .int .u32 m.r.val, .int .i64 m.r.rd, .bool m.r.st, .int .u32 m.r.addr, .int .u32 m.r.data, .int .i64 m.r.mask, .int .u32 (m.next : Int),
  .int .u32 (nth m.csrs 0 : Int), .int .u32 (nth m.csrs 1 : Int), .int .u32 (nth m.csrs 2 : Int), .int .u32 (nth m.csrs 3 : Int), .int .u32 (nth m.csrs 4 : Int)]
def seenC (pc w a b : Nat) (cs : List Nat) : List Value := [.int .u32 (pc : Int), .int .u32 (w : Int), .int .u32 (a : Int), .int .u32 (b : Int),
  .int .u32 (nth cs 0 : Int), .int .u32 (nth cs 1 : Int), .int .u32 (nth cs 2 : Int), .int .u32 (nth cs 3 : Int), .int .u32 (nth cs 4 : Int)]
def zMade : MadeV := ⟨⟨0, 0, 0, false, 0, 0, 0⟩, 0, [0, 0, 0, 0, 0]⟩
theorem info_made : (Try.prog.info? 53).map (·.size) = some 13 := by kernel_rfl
theorem info_seen : (Try.prog.info? 69).map (·.size) = some 9 := by kernel_rfl
theorem info_c5 : (Try.prog.info? 37).map (·.size) = some 5 := by kernel_rfl
theorem info_u1 : (Try.prog.info? 31).map (·.size) = some 1 := by kernel_rfl
theorem MadeV.one (m : MadeV) : (m.cells.toArray.all fun x => x.oneCell') = true := by simp [MadeV.cells, Value.oneCell']
theorem and_whole2 (a : Nat) (h : a < 2 ^ 32) : bits .and .u32 (a : Int) 4294967292 = ((low2 a : Nat) : Int) := by
  have := hi_and a 2 h (by decide); exact this
theorem and_even (a : Nat) (h : a < 2 ^ 32) : bits .and .u32 (a : Int) 4294967294 = ((a / 2 * 2 : Nat) : Int) := by
  have := hi_and a 1 h (by decide); exact this
theorem csr5 {cs : List Nat} (h : cs.length = 5) : ∃ a b c d e : Nat, cs = [a, b, c, d, e] := by
  match cs, h with
  | [a, b, c, d, e], _ => exact ⟨a, b, c, d, e, rfl⟩
set_option maxRecDepth 20000 in
set_option maxHeartbeats 4000000 in
theorem trap_calls (pc w a b cause val : Nat) (cs : List Nat) (zz : World) (hp : pc < 2 ^ 32) (hc : cause < 2 ^ 32) (h5 : cs.length = 5) :
    Calls Try.prog 31 #[.agg (seenC pc w a b cs).toArray, .int .i64 (cause : Int), .int .u32 (val : Int)] zz fun e z' => e = .returned (.agg (trapP pc cs cause val).cells.toArray) ∧ z' = ((zz.alloc (.cells (seenC pc w a b cs).toArray 69)).alloc (.cells (trapP pc cs cause val).cells.toArray 53)).alloc (.cells (trapP pc cs cause val).cells.toArray 53) := by
  obtain ⟨c0, c1, c2, c3, c4, rfl⟩ := csr5 h5
  have p1 : IntKind.u32.wrap (cause : Int) = (cause : Int) := wrap32 (by omega) (by omega)
  have p2 := and_whole2 pc hp
  generalize hl : low2 pc = l at p2
  have HL := Lib.hid hl
  clear hl
  show Calls _ _ #[.agg #[.int .u32 (pc : Int), .int .u32 (w : Int), .int .u32 (a : Int), .int .u32 (b : Int), .int .u32 (c0 : Int), .int .u32 (c1 : Int), .int .u32 (c2 : Int), .int .u32 (c3 : Int), .int .u32 (c4 : Int)], _, _] _ _
  go_enter Try.func31, Try.ntmps31
  go_wp2_with (fail)
  refine bodyPost_ret (results_cell_row rfl _ _ (zz.heap.size + 1) 53 (trapP pc [c0, c1, c2, c3, c4] cause val).cells.toArray _ _ rfl (by rw [← HL.out]; exact heap_old (hl2 _ _ _) _) Try.underlying53 rfl info_made) rfl ⟨rfl, by rw [← HL.out]; rfl⟩

/-- The part of what is made that an instruction of no jump starts with. -/
def mk0 (pc next : Nat) (cs : List Nat) : MadeV := ⟨⟨pc, 0, 0, false, 0, 0, 0⟩, next, cs⟩
theorem hl4 (z : World) (o p q r : Obj) : ((((z.alloc o).alloc p).alloc q).alloc r).heap[z.heap.size + 1 + 1 + 1]? = some r := by simpa using Go.heap_alloc_last (((z.alloc o).alloc p).alloc q) r
set_option maxRecDepth 20000 in
set_option maxHeartbeats 4000000 in
theorem jump_calls (pc w a b tg next : Nat) (i : InstV) (cs : List Nat) (zz : World) (hp : pc < 2 ^ 32) (h5 : cs.length = 5) :
    Calls Try.prog 47 #[.agg (seenC pc w a b cs).toArray, .agg i.arr, .agg (mk0 pc next cs).cells.toArray, .int .u32 (tg : Int)] zz fun e z' =>
      e = .returned (.agg (if tg % 4 ≠ 0 then trapP pc cs 0 tg else ⟨writeR pc i.rd next, tg, cs⟩ : MadeV).cells.toArray) ∧ Upd [] zz z' := by
  obtain ⟨c0, c1, c2, c3, c4, rfl⟩ := csr5 h5
  obtain ⟨op, rd, r1, r2, imm⟩ := i
  have hm : ((tg % 4 : Nat) : Int) = (tg : Int) % 4 := by omega
  have h3 : (tg : Int).tmod 4 = (tg : Int) % 4 := by rw [Int.tmod_eq_emod_of_nonneg (by omega)]
  by_cases ht : tg % 4 = 0
  · have d1 : ((tg : Int) % 4 != 0) = false := by rw [← hm]; exact (cast_eq_b ht).2
    rw [if_neg (by omega)]
    by_cases hr : rd = 0
    · subst hr
      clear ht hm
      show Calls _ _ #[.agg #[.int .u32 (pc : Int), .int .u32 (w : Int), .int .u32 (a : Int), .int .u32 (b : Int), .int .u32 (c0 : Int), .int .u32 (c1 : Int), .int .u32 (c2 : Int), .int .u32 (c3 : Int), .int .u32 (c4 : Int)], .agg #[.int .i64 (op : Int), .int .i64 0, .int .i64 (r1 : Int), .int .i64 (r2 : Int), .int .i32 imm], .agg #[.int .u32 (pc : Int), .int .u32 0, .int .i64 0, .bool false, .int .u32 0, .int .u32 0, .int .i64 0, .int .u32 (next : Int), .int .u32 (c0 : Int), .int .u32 (c1 : Int), .int .u32 (c2 : Int), .int .u32 (c3 : Int), .int .u32 (c4 : Int)], _] _ _
      go_enter Try.func47, Try.ntmps47
      go_wp2_with (first
        | (go_at_call 50; go_in)
        | (go_end0; simp only []; go_at_K))
      refine bodyPost_ret (results_cell_row rfl _ _ (zz.heap.size + 1 + 1 + 1) 53 (MadeV.cells ⟨writeR pc 0 next, tg, [c0, c1, c2, c3, c4]⟩).toArray _ _ rfl (heap_old (hl4 zz _ _ _ _) _) Try.underlying53 rfl info_made) rfl ⟨rfl, ?_⟩
      repeat (first | exact Upd.refl _ _ | refine Upd.alloc ?_ _ | refine Upd.drewN _ ?_ | refine Upd.drew ?_)
    · have dr : ((rd : Int) != 0) = true := (cast_ne_b hr).2
      have HE := Lib.hid (show writeR pc rd next = ⟨pc, next, rd, false, 0, 0, 0⟩ from if_neg hr)
      clear ht hm hr
      show Calls _ _ #[.agg #[.int .u32 (pc : Int), .int .u32 (w : Int), .int .u32 (a : Int), .int .u32 (b : Int), .int .u32 (c0 : Int), .int .u32 (c1 : Int), .int .u32 (c2 : Int), .int .u32 (c3 : Int), .int .u32 (c4 : Int)], .agg #[.int .i64 (op : Int), .int .i64 (rd : Int), .int .i64 (r1 : Int), .int .i64 (r2 : Int), .int .i32 imm], .agg #[.int .u32 (pc : Int), .int .u32 0, .int .i64 0, .bool false, .int .u32 0, .int .u32 0, .int .i64 0, .int .u32 (next : Int), .int .u32 (c0 : Int), .int .u32 (c1 : Int), .int .u32 (c2 : Int), .int .u32 (c3 : Int), .int .u32 (c4 : Int)], _] _ _
      go_enter Try.func47, Try.ntmps47
      go_wp2_with (first
        | (go_at_call 50; go_in)
        | (go_end0; simp only []; go_at_K))
      refine bodyPost_ret (results_cell_row rfl _ _ (zz.heap.size + 1 + 1 + 1) 53 (MadeV.cells ⟨⟨pc, next, rd, false, 0, 0, 0⟩, tg, [c0, c1, c2, c3, c4]⟩).toArray _ _ rfl (heap_old (hl4 zz _ _ _ _) _) Try.underlying53 rfl info_made) rfl ⟨by rw [HE.out], ?_⟩
      repeat (first | exact Upd.refl _ _ | refine Upd.alloc ?_ _ | refine Upd.drewN _ ?_ | refine Upd.drew ?_)
  · have d1 : ((tg : Int) % 4 != 0) = true := by rw [← hm]; exact (cast_ne_b ht).2
    rw [if_pos ht]
    clear ht hm
    show Calls _ _ #[.agg #[.int .u32 (pc : Int), .int .u32 (w : Int), .int .u32 (a : Int), .int .u32 (b : Int), .int .u32 (c0 : Int), .int .u32 (c1 : Int), .int .u32 (c2 : Int), .int .u32 (c3 : Int), .int .u32 (c4 : Int)], .agg #[.int .i64 (op : Int), .int .i64 (rd : Int), .int .i64 (r1 : Int), .int .i64 (r2 : Int), .int .i32 imm], .agg #[.int .u32 (pc : Int), .int .u32 0, .int .i64 0, .bool false, .int .u32 0, .int .u32 0, .int .i64 0, .int .u32 (next : Int), .int .u32 (c0 : Int), .int .u32 (c1 : Int), .int .u32 (c2 : Int), .int .u32 (c3 : Int), .int .u32 (c4 : Int)], _] _ _
    go_enter Try.func47, Try.ntmps47
    go_wp2_with (fail)
    refine (trap_calls pc w a b 0 tg [c0, c1, c2, c3, c4] _ hp (by decide) rfl).mono ?_
    rintro e z1 ⟨rfl, rfl⟩
    unfold seenC MadeV.cells trapP
    go_wp2_with (fail)
    refine bodyPost_ret (results_cell_row rfl _ _ (zz.heap.size + 1 + 1 + 1) 53 (MadeV.cells (trapP pc [c0, c1, c2, c3, c4] 0 tg)).toArray _ _ rfl (heap_old (heap_old (heap_old (hl4 zz _ _ _ _) _) _) _) Try.underlying53 rfl info_made) rfl ⟨rfl, ?_⟩
    repeat (first | exact Upd.refl _ _ | refine Upd.alloc ?_ _ | refine Upd.drewN _ ?_ | refine Upd.drew ?_)
end Go.Proofs.Ytggjmdgonjhioaa
