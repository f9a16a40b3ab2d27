/- One instruction: loads: the code's. -/
import Derived.Test.YtggjmdgonjhioaaStpB
import Derived.Test.YtggjmdgonjhioaaPlan
namespace Go.Proofs.Ytggjmdgonjhioaa
open Go.RowKit Go.Dio
set_option linter.unusedSimpArgs false
set_option linter.unusedVariables false

theorem loadP_lt (op addr word : Nat) (hw : word < 2 ^ 32) : loadP op addr word < 2 ^ 32 := by
  have hd : ∀ k, word / k < 2 ^ 32 := fun k => Nat.lt_of_le_of_lt (Nat.div_le_self _ _) hw
  unfold loadP
  split
  · decide
  · split
    · exact u32_lt _
    · exact u32_lt _
    · exact Nat.lt_of_le_of_lt (Nat.mod_le _ _) (hd _)
    · exact Nat.lt_of_le_of_lt (Nat.mod_le _ _) (hd _)
    · exact hd _
theorem moveP_load (pc a b : Nat) (cs : List Nat) (i : InstV) (word : Nat) (h : (accessP i.op (u32 ((a : Int) + i.imm))).2 = false) (ho : i.op ≤ 15) :
    moveP pc a b cs i word = ⟨writeR pc i.rd (loadP i.op (u32 ((a : Int) + i.imm)) word), u32 ((pc : Int) + 4), cs⟩ := by
  unfold moveP; rw [if_neg (by rw [h]; decide), if_pos ho]
set_option maxRecDepth 20000 in
set_option maxHeartbeats 8000000 in
theorem move_load (pc w a b word : Nat) (i : InstV) (cs : List Nat) (zz : World) (hw : word < 2 ^ 32) (h5 : cs.length = 5) (ho : 11 ≤ i.op ∧ i.op ≤ 15)
    (hb : (accessP i.op (u32 ((a : Int) + i.imm))).2 = false) :
    Calls Try.prog 49 #[.agg (seenC pc w a b cs).toArray, .agg i.arr, .agg (mk0 pc (u32 ((pc : Int) + 4)) cs).cells.toArray, .int .u32 (word : Int)] zz fun e z' =>
      e = .returned (.agg (moveP pc a b cs i word).cells.toArray) ∧ Upd [] zz z' := by
  rw [moveP_load pc a b cs i word hb ho.2]
  obtain ⟨c0, c1, c2, c3, c4, rfl⟩ := csr5 h5
  obtain ⟨op, rd, r1, r2, imm⟩ := i
  dsimp only at hb ho ⊢
  have v1 := wrap_u32 imm
  have v2 := addr_mod a imm
  have v3 := addr_wrap a imm
  have hal := u32_lt ((a : Int) + imm)
  generalize u32 ((a : Int) + imm) = ad at *
  generalize u32 imm = ui at *
  have X := Lib.hid (fun z => access_calls op ad z (by omega) hal)
  have hf := access_ok hb ⟨by omega, by omega⟩
  have Y := Lib.hid (fun z => load_calls op ad word z ho hal hw hf)
  have d15 : decide ((op : Int) ≤ 15) = true := decide_eq_true (by omega)
  have hop : op ≤ 15 := by omega
  generalize loadP op ad word = ld at *
  generalize (accessP op ad).1 = cause at *
  rw [hb] at X
  generalize u32 ((pc : Int) + 4) = next at *
  clear hb hf
  show Calls _ _ #[.agg #[.int .u32 (pc : Int), .int .u32 (w : Int), .int .u32 (a : Int), .int .u32 (b : Int), .int .u32 (c0 : Int), .int .u32 (c1 : Int), .int .u32 (c2 : Int), .int .u32 (c3 : Int), .int .u32 (c4 : Int)], .agg #[.int .i64 (op : Int), .int .i64 (rd : Int), .int .i64 (r1 : Int), .int .i64 (r2 : Int), .int .i32 imm], .agg #[.int .u32 (pc : Int), .int .u32 0, .int .i64 0, .bool false, .int .u32 0, .int .u32 0, .int .i64 0, .int .u32 (next : Int), .int .u32 (c0 : Int), .int .u32 (c1 : Int), .int .u32 (c2 : Int), .int .u32 (c3 : Int), .int .u32 (c4 : Int)], _] _ _
  go_enter Try.func49, Try.ntmps49
  go_wp2_with (first
    | (go_at_call 44; go_in)
    | go_back)
  refine (X.out _).mono ?_
  rintro e z1 ⟨rfl, rfl⟩
  go_wp2_with (fail)
  have B1 := hl2 zz (.cells (seenC pc w a b [c0, c1, c2, c3, c4]).toArray 69) (.cells (InstV.arr ⟨op, rd, r1, r2, imm⟩) 65)
  have B2 := hl3 zz (.cells (seenC pc w a b [c0, c1, c2, c3, c4]).toArray 69) (.cells (InstV.arr ⟨op, rd, r1, r2, imm⟩) 65) (.cells (mk0 pc next [c0, c1, c2, c3, c4]).cells.toArray 53)
  have B3 := hl4 zz (.cells (seenC pc w a b [c0, c1, c2, c3, c4]).toArray 69) (.cells (InstV.arr ⟨op, rd, r1, r2, imm⟩) 65) (.cells (mk0 pc next [c0, c1, c2, c3, c4]).cells.toArray 53) (.cells zMade.cells.toArray 53)
  have C1 := Lib.hid (heap_old (heap_old (heap_old B1 (.cells (mk0 pc next [c0, c1, c2, c3, c4]).cells.toArray 53)) (.cells zMade.cells.toArray 53)) (.cells (InstV.arr ⟨op, rd, r1, r2, imm⟩) 65))
  have C2 := Lib.hid (heap_old (heap_old B2 (.cells zMade.cells.toArray 53)) (.cells (InstV.arr ⟨op, rd, r1, r2, imm⟩) 65))
  have C3 := Lib.hid (heap_old B3 (.cells (InstV.arr ⟨op, rd, r1, r2, imm⟩) 65))
  have U := Lib.hid ((((((Upd.refl [] zz).alloc (.cells (seenC pc w a b [c0, c1, c2, c3, c4]).toArray 69)).alloc (.cells (InstV.arr ⟨op, rd, r1, r2, imm⟩) 65)).alloc (.cells (mk0 pc next [c0, c1, c2, c3, c4]).cells.toArray 53)).alloc (.cells zMade.cells.toArray 53)).alloc (.cells (InstV.arr ⟨op, rd, r1, r2, imm⟩) 65))
  clear B1 B2 B3
  generalize hW : World.alloc (World.alloc (World.alloc (World.alloc (World.alloc zz _) _) _) _) _ = W
  have hW2 : ((((zz.alloc (.cells (seenC pc w a b [c0, c1, c2, c3, c4]).toArray 69)).alloc (.cells (InstV.arr ⟨op, rd, r1, r2, imm⟩) 65)).alloc (.cells (mk0 pc next [c0, c1, c2, c3, c4]).cells.toArray 53)).alloc (.cells zMade.cells.toArray 53)).alloc (.cells (InstV.arr ⟨op, rd, r1, r2, imm⟩) 65) = W := hW
  rw [hW2] at C1 C2 C3 U
  clear hW hW2
  have R1 := Lib.hid (fun x : Near [zz.heap.size + 1 + 1] W => row_range (x.2.keep C1.out (by simp)))
  have n0 : ∀ x : Near [zz.heap.size + 1 + 1] W, x.1.cell? ⟨zz.heap.size + 1, 0, none⟩ = some (.int .i64 (op : Int)) := fun x => by rw [cells_of (x.2.keep C1.out (by simp))]; rfl
  refine wp_region_plan (fun z => ∃ x : Near [zz.heap.size + 1 + 1] W, z = x.1) [([0, 1, 2, 3, 4], 5), ([], 6)] [] (by kernel_rfl) (by kernel_rfl) (by kernel_rfl) (by kernel_rfl) (fun _ d _ _ _ h => by cases d <;> exact h) ⟨⟨(W).drew, (Upd.refl _ _).drew⟩, rfl⟩ ?_
  refine plan_next ?_
  simp only [opsAt, List.map_cons, List.map_nil, List.getElem?_toArray, List.getElem?_cons_zero, List.getElem?_cons_succ, Option.getD_some]
  repeat (first
    | go_big_quiet_step (fail)
    | (refine Q_load 65 (.tmp 5) rfl (by kernel_rfl) _ _ rfl (InstV.arr ⟨op, rd, r1, r2, imm⟩) (by rintro _ ⟨y, rfl⟩; exact R1.out y) Try.underlying65 rfl 5 info_inst rfl ?_; go_simp))
  refine wpQuiet_nil ?_
  refine plan_one rfl ?_
  go_wp2_with fail
  refine (Y.out _).mono ?_
  rintro e z1 ⟨rfl, rfl⟩
  go_wp2_with fail
  refine plan_same ⟨⟨_, (Upd.refl _ _).drew⟩, rfl⟩ ?_
  refine plan_next ?_
  simp only [opsAt, List.map_cons, List.map_nil, List.getElem?_toArray, List.getElem?_cons_zero, List.getElem?_cons_succ, Option.getD_some]
  repeat (go_big_quiet_step (fail))
  refine wpQuiet_nil ?_
  refine plan_one rfl ?_
  go_wp2_with fail
  refine (write_calls (zz.heap.size + 1 + 1) ld ⟨op, rd, r1, r2, imm⟩ (mk0 pc next [c0, c1, c2, c3, c4]) _ (show (World.drew W).heap[zz.heap.size + 1 + 1]? = _ from C2.out)).mono ?_
  rintro e w4 ⟨rfl, hb4, u4⟩
  have K3 := Lib.hid (u4.keep (show (World.drew W).heap[zz.heap.size + 1 + 1 + 1]? = _ from C3.out) (by simp))
  have V4 := Lib.hid (((Upd.refl [zz.heap.size + 1 + 1] W).drew).trans u4)
  have hM : (if rd = 0 then mk0 pc next [c0, c1, c2, c3, c4] else { mk0 pc next [c0, c1, c2, c3, c4] with r := { (mk0 pc next [c0, c1, c2, c3, c4]).r with val := (ld : Int), rd := (rd : Int) } }) = (⟨writeR pc rd ld, next, [c0, c1, c2, c3, c4]⟩ : MadeV) := by
    unfold writeR mk0; split <;> rfl
  rw [hM] at hb4
  have K4 := Lib.hid hb4
  clear hb4 u4 hM
  go_wp2_with fail
  refine plan_same ⟨⟨_, V4.out⟩, rfl⟩ ?_
  refine plan_last ?_
  simp only [opsAt, List.map_cons, List.map_nil, List.getElem?_toArray, List.getElem?_cons_zero, List.getElem?_cons_succ, Option.getD_some]
  repeat (go_big_quiet_step (fail))
  refine wpQuiet_nil ?_
  unfold planEnd
  generalize hMM : (⟨writeR pc rd ld, next, [c0, c1, c2, c3, c4]⟩ : MadeV) = MM at K4
  have HMM := Lib.hid hMM
  clear hMM n0
  go_wp2_with (first
    | go_skip
    | ((with_reducible refine at_op 38 ?_); refine L_load 53 (.tmp 6) rfl (by kernel_rfl) _ _ rfl MM.cells.toArray (row_range K4.out) Try.underlying53 rfl 13 info_made rfl ?_)
    | ((with_reducible refine at_st 8 ?_); refine L_store_row 53 (.tmp 8) (.tmp 38) rfl (by kernel_rfl) (zz.heap.size + 1 + 1 + 1) 0 rfl zMade.cells 53 K3.out MM.cells.toArray rfl 13 info_made rfl (by decide) (MadeV.one _) ?_))
  intro wZ bZ uZ zZ
  rw [spl_all (by rfl)] at bZ
  go_wp2_with (fail)
  refine bodyPost_ret (results_cell_row rfl _ _ (zz.heap.size + 1 + 1 + 1) 53 MM.cells.toArray _ _ rfl bZ Try.underlying53 rfl info_made) rfl ⟨by rw [← HMM.out], ?_⟩
  exact (U.out.then V4.out (fun x hx hlt => by simp at hx; omega)).then uZ (fun x hx hlt => by simp at hx; omega)
end Go.Proofs.Ytggjmdgonjhioaa
