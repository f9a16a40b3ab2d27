/- One instruction: traps, registers written, jumps: the code's. -/
import Derived.Test.YtmdjhahafjlebaaGreatDoorQD26
import Derived.Test.YtmdjhahafjlebaaGreatDoorQD27
namespace Go.Proofs.YtmdjhahafjlebaaGreatDoor
open Go.RowKit Go.Dio
set_option linter.unusedSimpArgs false
set_option linter.unusedVariables false

def csV (cs : List Nat) : List Value := [.int .u32 (nth cs 0 : Int), .int .u32 (nth cs 1 : Int), .int .u32 (nth cs 2 : Int), .int .u32 (nth cs 3 : Int), .int .u32 (nth cs 4 : Int)]
def MadeV.cells (m : MadeV) : List Value := [.int .u32 m.r.pc, .int .u32 m.r.val, .int .i64 m.r.rd, .bool m.r.st, .int .u32 m.r.addr, .int .u32 m.r.data, .int .i64 m.r.mask, .int .u32 (m.next : Int),
  .int .u32 (nth m.csrs 0 : Int), .int .u32 (nth m.csrs 1 : Int), .int .u32 (nth m.csrs 2 : Int), .int .u32 (nth m.csrs 3 : Int), .int .u32 (nth m.csrs 4 : Int)]
def seenC (pc w a b : Nat) (cs : List Nat) : List Value := [.int .u32 (pc : Int), .int .u32 (w : Int), .int .u32 (a : Int), .int .u32 (b : Int),
  .int .u32 (nth cs 0 : Int), .int .u32 (nth cs 1 : Int), .int .u32 (nth cs 2 : Int), .int .u32 (nth cs 3 : Int), .int .u32 (nth cs 4 : Int)]
def zMade : MadeV := ⟨⟨0, 0, 0, false, 0, 0, 0⟩, 0, [0, 0, 0, 0, 0]⟩
theorem info_made : (Tryz.prog.info? 120).map (·.size) = some 13 := by kernel_rfl
theorem info_seen : (Tryz.prog.info? 115).map (·.size) = some 9 := by kernel_rfl
theorem info_c5 : (Tryz.prog.info? 42).map (·.size) = some 5 := by kernel_rfl
theorem info_u1 : (Tryz.prog.info? 36).map (·.size) = some 1 := by kernel_rfl
theorem MadeV.one (m : MadeV) : (m.cells.toArray.all fun x => x.oneCell') = true := by simp [MadeV.cells, Value.oneCell']
theorem and_whole2 (a : Nat) (h : a < 2 ^ 32) : bits .and .u32 (a : Int) 4294967292 = ((low2 a : Nat) : Int) := by
  have := hi_and a 2 h (by decide); exact this
theorem and_even (a : Nat) (h : a < 2 ^ 32) : bits .and .u32 (a : Int) 4294967294 = ((a / 2 * 2 : Nat) : Int) := by
  have := hi_and a 1 h (by decide); exact this
theorem csr5 {cs : List Nat} (h : cs.length = 5) : ∃ a b c d e : Nat, cs = [a, b, c, d, e] := by
  match cs, h with
  | [a, b, c, d, e], _ => exact ⟨a, b, c, d, e, rfl⟩
set_option maxRecDepth 20000 in
set_option maxHeartbeats 4000000 in
theorem trap_calls (pc w a b cause val : Nat) (cs : List Nat) (zz : World) (hp : pc < 2 ^ 32) (hc : cause < 2 ^ 32) (h5 : cs.length = 5) :
    Calls Tryz.prog 73 #[.agg (seenC pc w a b cs).toArray, .int .i64 (cause : Int), .int .u32 (val : Int)] zz fun e z' => e = .returned (.agg (trapP pc cs cause val).cells.toArray) ∧ z' = ((zz.alloc (.cells (seenC pc w a b cs).toArray 115)).alloc (.cells (trapP pc cs cause val).cells.toArray 120)).alloc (.cells (trapP pc cs cause val).cells.toArray 120) := by
  obtain ⟨c0, c1, c2, c3, c4, rfl⟩ := csr5 h5
  have p1 : IntKind.u32.wrap (cause : Int) = (cause : Int) := wrap32 (by omega) (by omega)
  have p2 := and_whole2 pc hp
  generalize hl : low2 pc = l at p2
  have HL := Lib.hid hl
  clear hl
  show Calls _ _ #[.agg #[.int .u32 (pc : Int), .int .u32 (w : Int), .int .u32 (a : Int), .int .u32 (b : Int), .int .u32 (c0 : Int), .int .u32 (c1 : Int), .int .u32 (c2 : Int), .int .u32 (c3 : Int), .int .u32 (c4 : Int)], _, _] _ _
  go_enter Tryz.func73, Tryz.ntmps73
  go_wp2_with (fail)
  refine bodyPost_ret (results_cell_row rfl _ _ (zz.heap.size + 1) 120 (trapP pc [c0, c1, c2, c3, c4] cause val).cells.toArray _ _ rfl (by rw [← HL.out]; exact heap_old (hl2 _ _ _) _) Tryz.underlying120 rfl info_made) rfl ⟨rfl, by rw [← HL.out]; rfl⟩

/-- The part of what is made that an instruction of no jump starts with. -/
def mk0 (pc next : Nat) (cs : List Nat) : MadeV := ⟨⟨pc, 0, 0, false, 0, 0, 0⟩, next, cs⟩
theorem hl4 (z : World) (o p q r : Obj) : ((((z.alloc o).alloc p).alloc q).alloc r).heap[z.heap.size + 1 + 1 + 1]? = some r := by simpa using Go.heap_alloc_last (((z.alloc o).alloc p).alloc q) r
set_option maxRecDepth 20000 in
set_option maxHeartbeats 4000000 in
theorem jump_calls (pc w a b tg next : Nat) (i : InstV) (cs : List Nat) (zz : World) (hp : pc < 2 ^ 32) (h5 : cs.length = 5) :
    Calls Tryz.prog 122 #[.agg (seenC pc w a b cs).toArray, .agg i.arr, .agg (mk0 pc next cs).cells.toArray, .int .u32 (tg : Int)] zz fun e z' =>
      e = .returned (.agg (if tg % 4 ≠ 0 then trapP pc cs 0 tg else ⟨writeR pc i.rd next, tg, cs⟩ : MadeV).cells.toArray) ∧ Upd [] zz z' := by
  obtain ⟨c0, c1, c2, c3, c4, rfl⟩ := csr5 h5
  obtain ⟨op, rd, r1, r2, imm⟩ := i
  have hm : ((tg % 4 : Nat) : Int) = (tg : Int) % 4 := by omega
  have h3 : (tg : Int).tmod 4 = (tg : Int) % 4 := by rw [Int.tmod_eq_emod_of_nonneg (by omega)]
  by_cases ht : tg % 4 = 0
  · have d1 : ((tg : Int) % 4 != 0) = false := by rw [← hm]; exact (cast_eq_b ht).2
    rw [if_neg (by omega)]
    by_cases hr : rd = 0
    · subst hr
      clear ht hm
      show Calls _ _ #[.agg #[.int .u32 (pc : Int), .int .u32 (w : Int), .int .u32 (a : Int), .int .u32 (b : Int), .int .u32 (c0 : Int), .int .u32 (c1 : Int), .int .u32 (c2 : Int), .int .u32 (c3 : Int), .int .u32 (c4 : Int)], .agg #[.int .i64 (op : Int), .int .i64 0, .int .i64 (r1 : Int), .int .i64 (r2 : Int), .int .i32 imm], .agg #[.int .u32 (pc : Int), .int .u32 0, .int .i64 0, .bool false, .int .u32 0, .int .u32 0, .int .i64 0, .int .u32 (next : Int), .int .u32 (c0 : Int), .int .u32 (c1 : Int), .int .u32 (c2 : Int), .int .u32 (c3 : Int), .int .u32 (c4 : Int)], _] _ _
      go_enter Tryz.func122, Tryz.ntmps122
      go_wp2_with (first
        | (go_at_call 125; go_in)
        | (go_end0; simp only []; go_at_K))
      refine bodyPost_ret (results_cell_row rfl _ _ (zz.heap.size + 1 + 1 + 1) 120 (MadeV.cells ⟨writeR pc 0 next, tg, [c0, c1, c2, c3, c4]⟩).toArray _ _ rfl (heap_old (hl4 zz _ _ _ _) _) Tryz.underlying120 rfl info_made) rfl ⟨rfl, ?_⟩
      repeat (first | exact Upd.refl _ _ | refine Upd.alloc ?_ _ | refine Upd.drewN _ ?_ | refine Upd.drew ?_)
    · have dr : ((rd : Int) != 0) = true := (cast_ne_b hr).2
      have HE := Lib.hid (show writeR pc rd next = ⟨pc, next, rd, false, 0, 0, 0⟩ from if_neg hr)
      clear ht hm hr
      show Calls _ _ #[.agg #[.int .u32 (pc : Int), .int .u32 (w : Int), .int .u32 (a : Int), .int .u32 (b : Int), .int .u32 (c0 : Int), .int .u32 (c1 : Int), .int .u32 (c2 : Int), .int .u32 (c3 : Int), .int .u32 (c4 : Int)], .agg #[.int .i64 (op : Int), .int .i64 (rd : Int), .int .i64 (r1 : Int), .int .i64 (r2 : Int), .int .i32 imm], .agg #[.int .u32 (pc : Int), .int .u32 0, .int .i64 0, .bool false, .int .u32 0, .int .u32 0, .int .i64 0, .int .u32 (next : Int), .int .u32 (c0 : Int), .int .u32 (c1 : Int), .int .u32 (c2 : Int), .int .u32 (c3 : Int), .int .u32 (c4 : Int)], _] _ _
      go_enter Tryz.func122, Tryz.ntmps122
      go_wp2_with (first
        | (go_at_call 125; go_in)
        | (go_end0; simp only []; go_at_K))
      refine bodyPost_ret (results_cell_row rfl _ _ (zz.heap.size + 1 + 1 + 1) 120 (MadeV.cells ⟨⟨pc, next, rd, false, 0, 0, 0⟩, tg, [c0, c1, c2, c3, c4]⟩).toArray _ _ rfl (heap_old (hl4 zz _ _ _ _) _) Tryz.underlying120 rfl info_made) rfl ⟨by rw [HE.out], ?_⟩
      repeat (first | exact Upd.refl _ _ | refine Upd.alloc ?_ _ | refine Upd.drewN _ ?_ | refine Upd.drew ?_)
  · have d1 : ((tg : Int) % 4 != 0) = true := by rw [← hm]; exact (cast_ne_b ht).2
    rw [if_pos ht]
    clear ht hm
    show Calls _ _ #[.agg #[.int .u32 (pc : Int), .int .u32 (w : Int), .int .u32 (a : Int), .int .u32 (b : Int), .int .u32 (c0 : Int), .int .u32 (c1 : Int), .int .u32 (c2 : Int), .int .u32 (c3 : Int), .int .u32 (c4 : Int)], .agg #[.int .i64 (op : Int), .int .i64 (rd : Int), .int .i64 (r1 : Int), .int .i64 (r2 : Int), .int .i32 imm], .agg #[.int .u32 (pc : Int), .int .u32 0, .int .i64 0, .bool false, .int .u32 0, .int .u32 0, .int .i64 0, .int .u32 (next : Int), .int .u32 (c0 : Int), .int .u32 (c1 : Int), .int .u32 (c2 : Int), .int .u32 (c3 : Int), .int .u32 (c4 : Int)], _] _ _
    go_enter Tryz.func122, Tryz.ntmps122
    go_wp2_with (fail)
    refine (trap_calls pc w a b 0 tg [c0, c1, c2, c3, c4] _ hp (by decide) rfl).mono ?_
    rintro e z1 ⟨rfl, rfl⟩
    unfold seenC MadeV.cells trapP
    go_wp2_with (fail)
    refine bodyPost_ret (results_cell_row rfl _ _ (zz.heap.size + 1 + 1 + 1) 120 (MadeV.cells (trapP pc [c0, c1, c2, c3, c4] 0 tg)).toArray _ _ rfl (heap_old (heap_old (heap_old (hl4 zz _ _ _ _) _) _) _) Tryz.underlying120 rfl info_made) rfl ⟨rfl, ?_⟩
    repeat (first | exact Upd.refl _ _ | refine Upd.alloc ?_ _ | refine Upd.drewN _ ?_ | refine Upd.drew ?_)
end Go.Proofs.YtmdjhahafjlebaaGreatDoor

namespace Go.Proofs.YtmdjhahafjlebaaGreatDoor
open Go.RowKit Go.Dio
set_option linter.unusedSimpArgs false
set_option linter.unusedVariables false

theorem ret0 {fn : Func} (h : fn.results = #[]) (tmps : Array Value) (P : Program) (w : World) : (results fn tmps).run P w = .ok (.tuple #[]) w := results_none h tmps P w
set_option maxHeartbeats 1000000 in
theorem write_calls (mb n : Nat) (i : InstV) (M : MadeV) (w : World) (hb : w.heap[mb]? = some (.cells M.cells.toArray 120 (0, 0))) :
    Calls Tryz.prog 125 #[.pointer (some ⟨mb, 0, none⟩), .agg i.arr, .int .u32 (n : Int)] w fun e w' => e = .returned (.tuple #[]) ∧
      w'.heap[mb]? = some (.cells (MadeV.cells (if i.rd = 0 then M else { M with r := { M.r with val := (n : Int), rd := (i.rd : Int) } })).toArray 120 (0, 0)) ∧ Upd [mb] w w' := by
  obtain ⟨op, rd, r1, r2, imm⟩ := i
  by_cases hr : rd = 0
  · subst hr
    show Calls _ _ #[_, .agg #[.int .i64 (op : Int), .int .i64 0, .int .i64 (r1 : Int), .int .i64 (r2 : Int), .int .i32 imm], _] _ _
    rw [if_pos rfl]
    have HB := Lib.hid hb
    clear hb
    go_enter Tryz.func125, Tryz.ntmps125
    go_wp2_with (fail)
    go_end0
    exact ⟨rfl, heap_old HB.out _, (Upd.refl _ _).alloc _⟩
  · have dr : ((rd : Int) != 0) = true := (cast_ne_b hr).2
    rw [if_neg hr]
    have HB := Lib.hid hb
    clear hb hr
    show Calls _ _ #[_, .agg #[.int .i64 (op : Int), .int .i64 (rd : Int), .int .i64 (r1 : Int), .int .i64 (r2 : Int), .int .i32 imm], _] _ _
    go_enter Tryz.func125, Tryz.ntmps125
    go_wp2_with (first
      | go_skip
      | ((with_reducible refine at_st 16 ?_); refine L_store_int 3 (.tmp 16) _ rfl (by kernel_rfl) mb 2 rfl M.cells 120 (heap_old HB.out _) .i64 (rd : Int) rfl info_int1 (show 2 < 13 by decide) ?_))
    intro wA bA uA zA
    have RA := Lib.hid bA
    clear bA
    go_wp2_with (first
      | go_skip
      | ((with_reducible refine at_st 19 ?_); refine L_store_int 36 (.tmp 19) _ rfl (by kernel_rfl) mb 1 rfl _ 120 RA.out .u32 (n : Int) rfl info_u1 (show 1 < 13 by decide) ?_))
    intro wB bB uB zB
    have RB := Lib.hid bB
    clear bB
    go_wp2_with (fail)
    go_end0
    exact ⟨rfl, RB.out, (((Upd.refl _ _).alloc _).trans uA).trans uB⟩
theorem index_exact (c : Int) (z : World) : Calls Tryz.prog 143 #[.int .i64 c] z fun e z' => e = .returned (.int .i64 (idxP c)) ∧ z' = z.alloc (.cells (nums .i64 csrL) 3) := by
  go_enter Tryz.func143, Tryz.ntmps143
  go_wp2_with (fail)
  refine (sindex_calls _ c _ (numsAt_new z .i64 csrL 3)).mono ?_
  rintro e z1 ⟨rfl, rfl⟩
  go_wp2_with (fail)
  go_ret
  exact ⟨rfl, rfl⟩
theorem addr_mod (a : Nat) (imm : Int) : ((a : Int) + ((u32 imm : Nat) : Int)) % 4294967296 = ((u32 ((a : Int) + imm) : Nat) : Int) := by unfold u32; omega
theorem addr_wrap (a : Nat) (imm : Int) : IntKind.u32.wrap ((a : Int) + ((u32 imm : Nat) : Int)) = ((u32 ((a : Int) + imm) : Nat) : Int) := by rw [IntKind.wrap_u32]; exact addr_mod a imm
theorem accessP_lt (op addr : Nat) : (accessP op addr).1 < 2 ^ 32 := by
  unfold accessP; repeat (first | split | decide)
theorem access_ok {op addr : Nat} (h : (accessP op addr).2 = false) (ho : 11 ≤ op ∧ op ≤ 18) : fitsP op addr = true := by
  unfold accessP at h
  have hs : sizeP op ≠ 0 := by
    rcases (by omega : op = 11 ∨ op = 12 ∨ op = 13 ∨ op = 14 ∨ op = 15 ∨ op = 16 ∨ op = 17 ∨ op = 18) with rfl | rfl | rfl | rfl | rfl | rfl | rfl | rfl <;> decide
  rw [if_neg hs] at h
  cases hf : fitsP op addr
  · rw [hf, if_pos rfl] at h; exact absurd h (by simp)
  · rfl
theorem storeD_lt (op addr n : Nat) (hn : n < 2 ^ 32) (ho : 16 ≤ op ∧ op ≤ 18) (hf : fitsP op addr = true) : storeD op addr n < 2 ^ 32 := by
  have e : storeD op addr n = n % 2 ^ (8 * sizeP op) * 2 ^ (addr % 4 * 8) := by unfold storeD; rw [if_neg (by rw [hf]; simp; omega)]
  rw [e]
  rcases (by omega : op = 16 ∨ op = 17 ∨ op = 18) with rfl | rfl | rfl
  · rcases (by omega : addr % 4 = 0 ∨ addr % 4 = 1 ∨ addr % 4 = 2 ∨ addr % 4 = 3) with hk | hk | hk | hk <;> rw [hk] <;> exact Nat.lt_of_lt_of_le (Nat.mul_lt_mul_of_pos_right (Nat.mod_lt n (by decide)) (by decide)) (by decide)
  · have h2 := fits2 hf rfl
    rcases (by omega : addr % 4 = 0 ∨ addr % 4 = 2) with hk | hk <;> rw [hk] <;> exact Nat.lt_of_lt_of_le (Nat.mul_lt_mul_of_pos_right (Nat.mod_lt n (by decide)) (by decide)) (by decide)
  · have hk := fits4 hf rfl
    rw [hk]; exact Nat.lt_of_lt_of_le (Nat.mul_lt_mul_of_pos_right (Nat.mod_lt n (by decide)) (by decide)) (by decide)
theorem moveP_bad (pc a b next : Nat) (cs : List Nat) (i : InstV) (word : Nat) (h : (accessP i.op (u32 ((a : Int) + i.imm))).2 = true) :
    moveP pc a b cs i word = trapP pc cs (accessP i.op (u32 ((a : Int) + i.imm))).1 (u32 ((a : Int) + i.imm)) := by unfold moveP; rw [if_pos h]
set_option maxRecDepth 20000 in
set_option maxHeartbeats 8000000 in
theorem move_bad (pc w a b next word : Nat) (i : InstV) (cs : List Nat) (zz : World) (hp : pc < 2 ^ 32) (h5 : cs.length = 5) (ho : 11 ≤ i.op ∧ i.op ≤ 18)
    (hb : (accessP i.op (u32 ((a : Int) + i.imm))).2 = true) :
    Calls Tryz.prog 124 #[.agg (seenC pc w a b cs).toArray, .agg i.arr, .agg (mk0 pc next cs).cells.toArray, .int .u32 (word : Int)] zz fun e z' =>
      e = .returned (.agg (moveP pc a b cs i word).cells.toArray) ∧ Upd [] zz z' := by
  rw [moveP_bad pc a b next cs i word hb]
  obtain ⟨c0, c1, c2, c3, c4, rfl⟩ := csr5 h5
  obtain ⟨op, rd, r1, r2, imm⟩ := i
  dsimp only at hb ho ⊢
  have v1 := wrap_u32 imm
  have v2 := addr_mod a imm
  have v3 := addr_wrap a imm
  have hal := u32_lt ((a : Int) + imm)
  generalize u32 ((a : Int) + imm) = ad at *
  generalize u32 imm = ui at *
  have X := Lib.hid (fun z => access_calls op ad z (by omega) hal)
  have hcl := accessP_lt op ad
  generalize (accessP op ad).1 = cause at *
  rw [hb] at X
  clear hb ho
  show Calls _ _ #[.agg #[.int .u32 (pc : Int), .int .u32 (w : Int), .int .u32 (a : Int), .int .u32 (b : Int), .int .u32 (c0 : Int), .int .u32 (c1 : Int), .int .u32 (c2 : Int), .int .u32 (c3 : Int), .int .u32 (c4 : Int)], .agg #[.int .i64 (op : Int), .int .i64 (rd : Int), .int .i64 (r1 : Int), .int .i64 (r2 : Int), .int .i32 imm], .agg #[.int .u32 (pc : Int), .int .u32 0, .int .i64 0, .bool false, .int .u32 0, .int .u32 0, .int .i64 0, .int .u32 (next : Int), .int .u32 (c0 : Int), .int .u32 (c1 : Int), .int .u32 (c2 : Int), .int .u32 (c3 : Int), .int .u32 (c4 : Int)], _] _ _
  go_enter Tryz.func124, Tryz.ntmps124
  go_wp2_with (first
    | (go_at_call 119; go_in)
    | go_back)
  refine (X.out _).mono ?_
  rintro e z1 ⟨rfl, rfl⟩
  go_wp2_with (fail)
  refine (trap_calls pc w a b cause ad [c0, c1, c2, c3, c4] _ hp hcl rfl).mono ?_
  rintro e z1 ⟨rfl, rfl⟩
  unfold seenC MadeV.cells trapP
  go_wp2_with (fail)
  refine bodyPost_ret (results_cell_row rfl _ _ (zz.heap.size + 1 + 1 + 1) 120 (MadeV.cells (trapP pc [c0, c1, c2, c3, c4] cause ad)).toArray _ _ rfl (heap_old (heap_old (heap_old (heap_old (hl4 zz _ _ _ _) _) _) _) _) Tryz.underlying120 rfl info_made) rfl ⟨rfl, ?_⟩
  repeat (first | exact Upd.refl _ _ | refine Upd.alloc ?_ _ | refine Upd.drewN _ ?_ | refine Upd.drew ?_)
theorem moveP_store (pc a b : Nat) (cs : List Nat) (i : InstV) (word : Nat) (h : (accessP i.op (u32 ((a : Int) + i.imm))).2 = false) (ho : 16 ≤ i.op) :
    moveP pc a b cs i word = ⟨⟨pc, 0, 0, true, low2 (u32 ((a : Int) + i.imm)), storeD i.op (u32 ((a : Int) + i.imm)) b, storeM i.op (u32 ((a : Int) + i.imm))⟩, if u32 ((a : Int) + i.imm) = 268435460 then pc else u32 ((pc : Int) + 4), cs⟩ := by
  unfold moveP; rw [if_neg (by rw [h]; decide), if_neg (by omega)]
set_option maxRecDepth 20000 in
set_option maxHeartbeats 8000000 in
theorem move_store (pc w a b word : Nat) (i : InstV) (cs : List Nat) (zz : World) (hp : pc < 2 ^ 32) (hbb : b < 2 ^ 32) (h5 : cs.length = 5) (ho : 16 ≤ i.op ∧ i.op ≤ 18)
    (hb : (accessP i.op (u32 ((a : Int) + i.imm))).2 = false) :
    Calls Tryz.prog 124 #[.agg (seenC pc w a b cs).toArray, .agg i.arr, .agg (mk0 pc (u32 ((pc : Int) + 4)) cs).cells.toArray, .int .u32 (word : Int)] zz fun e z' =>
      e = .returned (.agg (moveP pc a b cs i word).cells.toArray) ∧ Upd [] zz z' := by
  rw [moveP_store pc a b cs i word hb ho.1]
  obtain ⟨c0, c1, c2, c3, c4, rfl⟩ := csr5 h5
  obtain ⟨op, rd, r1, r2, imm⟩ := i
  dsimp only at hb ho ⊢
  have v1 := wrap_u32 imm
  have v2 := addr_mod a imm
  have v3 := addr_wrap a imm
  have hal := u32_lt ((a : Int) + imm)
  generalize u32 ((a : Int) + imm) = ad at *
  generalize u32 imm = ui at *
  have X := Lib.hid (fun z => access_calls op ad z (by omega) hal)
  have hf := access_ok hb ⟨by omega, by omega⟩
  have Y := Lib.hid (fun z => store_calls op ad b z ho hal hbb hf)
  have d15 : decide ((op : Int) ≤ 15) = false := decide_eq_false (by omega)
  have hop : ¬ op ≤ 15 := by omega
  have wl := and_whole2 ad hal
  generalize low2 ad = l at *
  generalize storeD op ad b = sd at *
  generalize storeM op ad = sm at *
  generalize (accessP op ad).1 = cause at *
  rw [hb] at X
  generalize u32 ((pc : Int) + 4) = next at *
  clear hb ho hf
  by_cases hh : ad = 268435460
  · subst hh
    have wl2 : bits .and .u32 268435460 4294967292 = ((l : Nat) : Int) := wl
    have HN := Lib.hid (show (if 268435460 = 268435460 then pc else next) = pc from if_pos rfl)
    show Calls _ _ #[.agg #[.int .u32 (pc : Int), .int .u32 (w : Int), .int .u32 (a : Int), .int .u32 (b : Int), .int .u32 (c0 : Int), .int .u32 (c1 : Int), .int .u32 (c2 : Int), .int .u32 (c3 : Int), .int .u32 (c4 : Int)], .agg #[.int .i64 (op : Int), .int .i64 (rd : Int), .int .i64 (r1 : Int), .int .i64 (r2 : Int), .int .i32 imm], .agg #[.int .u32 (pc : Int), .int .u32 0, .int .i64 0, .bool false, .int .u32 0, .int .u32 0, .int .i64 0, .int .u32 (next : Int), .int .u32 (c0 : Int), .int .u32 (c1 : Int), .int .u32 (c2 : Int), .int .u32 (c3 : Int), .int .u32 (c4 : Int)], _] _ _
    go_enter Tryz.func124, Tryz.ntmps124
    go_wp2_with (first
      | (go_at_call 119; go_in)
      | go_back)
    refine (X.out _).mono ?_
    rintro e z1 ⟨rfl, rfl⟩
    go_wp2_with (fail)
    refine (Y.out _).mono ?_
    rintro e z1 ⟨rfl, rfl⟩
    go_wp2_with (fail)
    refine bodyPost_ret (results_cell_row rfl _ _ (zz.heap.size + 1 + 1 + 1) 120 (MadeV.cells ⟨⟨pc, 0, 0, true, l, sd, sm⟩, pc, [c0, c1, c2, c3, c4]⟩).toArray _ _ rfl (heap_old (hl4 zz _ _ _ _) _) Tryz.underlying120 rfl info_made) rfl ⟨by first | rfl | rw [HN.out], ?_⟩
    repeat (first | exact Upd.refl _ _ | refine Upd.alloc ?_ _ | refine Upd.drewN _ ?_ | refine Upd.drew ?_)
  · have dh : ((ad : Int) == 268435460) = false := (cast_ne_b hh).1
    have HN := Lib.hid (show (if ad = 268435460 then pc else next) = next from if_neg hh)
    have hh2 : ((ad : Int) != 268435460) = true := (cast_ne_b hh).2
    show Calls _ _ #[.agg #[.int .u32 (pc : Int), .int .u32 (w : Int), .int .u32 (a : Int), .int .u32 (b : Int), .int .u32 (c0 : Int), .int .u32 (c1 : Int), .int .u32 (c2 : Int), .int .u32 (c3 : Int), .int .u32 (c4 : Int)], .agg #[.int .i64 (op : Int), .int .i64 (rd : Int), .int .i64 (r1 : Int), .int .i64 (r2 : Int), .int .i32 imm], .agg #[.int .u32 (pc : Int), .int .u32 0, .int .i64 0, .bool false, .int .u32 0, .int .u32 0, .int .i64 0, .int .u32 (next : Int), .int .u32 (c0 : Int), .int .u32 (c1 : Int), .int .u32 (c2 : Int), .int .u32 (c3 : Int), .int .u32 (c4 : Int)], _] _ _
    go_enter Tryz.func124, Tryz.ntmps124
    go_wp2_with (first
      | (go_at_call 119; go_in)
      | go_back)
    refine (X.out _).mono ?_
    rintro e z1 ⟨rfl, rfl⟩
    go_wp2_with (fail)
    refine (Y.out _).mono ?_
    rintro e z1 ⟨rfl, rfl⟩
    go_wp2_with (fail)
    refine bodyPost_ret (results_cell_row rfl _ _ (zz.heap.size + 1 + 1 + 1) 120 (MadeV.cells ⟨⟨pc, 0, 0, true, l, sd, sm⟩, next, [c0, c1, c2, c3, c4]⟩).toArray _ _ rfl (heap_old (hl4 zz _ _ _ _) _) Tryz.underlying120 rfl info_made) rfl ⟨by first | rfl | rw [HN.out], ?_⟩
    repeat (first | exact Upd.refl _ _ | refine Upd.alloc ?_ _ | refine Upd.drewN _ ?_ | refine Upd.drew ?_)
end Go.Proofs.YtmdjhahafjlebaaGreatDoor
