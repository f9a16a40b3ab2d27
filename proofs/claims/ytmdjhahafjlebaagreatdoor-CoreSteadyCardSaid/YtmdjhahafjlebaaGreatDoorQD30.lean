/- One instruction: loads: the code's. -/
import Derived.Test.YtmdjhahafjlebaaGreatDoorQD28
import Derived.Test.YtmdjhahafjlebaaGreatDoorQD04
import Derived.Deep.Cut
namespace Go.Proofs.YtmdjhahafjlebaaGreatDoor
open Go.RowKit Go.Dio
set_option linter.unusedSimpArgs false
set_option linter.unusedVariables false

theorem loadP_lt (op addr word : Nat) (hw : word < 2 ^ 32) : loadP op addr word < 2 ^ 32 := by
  have hd : ∀ k, word / k < 2 ^ 32 := fun k => Nat.lt_of_le_of_lt (Nat.div_le_self _ _) hw
  unfold loadP
  split
  · decide
  · split
    · exact u32_lt _
    · exact u32_lt _
    · exact Nat.lt_of_le_of_lt (Nat.mod_le _ _) (hd _)
    · exact Nat.lt_of_le_of_lt (Nat.mod_le _ _) (hd _)
    · exact hd _
theorem moveP_load (pc a b : Nat) (cs : List Nat) (i : InstV) (word : Nat) (h : (accessP i.op (u32 ((a : Int) + i.imm))).2 = false) (ho : i.op ≤ 15) :
    moveP pc a b cs i word = ⟨writeR pc i.rd (loadP i.op (u32 ((a : Int) + i.imm)) word), u32 ((pc : Int) + 4), cs⟩ := by
  unfold moveP; rw [if_neg (by rw [h]; decide), if_pos ho]
set_option maxRecDepth 20000 in
set_option maxHeartbeats 8000000 in
theorem move_load (pc w a b word : Nat) (i : InstV) (cs : List Nat) (zz : World) (hw : word < 2 ^ 32) (h5 : cs.length = 5) (ho : 11 ≤ i.op ∧ i.op ≤ 15)
    (hb : (accessP i.op (u32 ((a : Int) + i.imm))).2 = false) :
    Calls Tryz.prog 124 #[.agg (seenC pc w a b cs).toArray, .agg i.arr, .agg (mk0 pc (u32 ((pc : Int) + 4)) cs).cells.toArray, .int .u32 (word : Int)] zz fun e z' =>
      e = .returned (.agg (moveP pc a b cs i word).cells.toArray) ∧ Upd [] zz z' := by
  rw [moveP_load pc a b cs i word hb ho.2]
  obtain ⟨c0, c1, c2, c3, c4, rfl⟩ := csr5 h5
  obtain ⟨op, rd, r1, r2, imm⟩ := i
  dsimp only at hb ho ⊢
  have v1 := wrap_u32 imm
  have v2 := addr_mod a imm
  have v3 := addr_wrap a imm
  have hal := u32_lt ((a : Int) + imm)
  generalize u32 ((a : Int) + imm) = ad at *
  generalize u32 imm = ui at *
  have X := Lib.hid (fun z => access_calls op ad z (by omega) hal)
  have hf := access_ok hb ⟨by omega, by omega⟩
  have Y := Lib.hid (fun z => load_calls op ad word z ho hal hw hf)
  have d15 : decide ((op : Int) ≤ 15) = true := decide_eq_true (by omega)
  have hop : op ≤ 15 := by omega
  generalize loadP op ad word = ld at *
  generalize (accessP op ad).1 = cause at *
  rw [hb] at X
  generalize u32 ((pc : Int) + 4) = next at *
  clear hb hf
  show Calls _ _ #[.agg #[.int .u32 (pc : Int), .int .u32 (w : Int), .int .u32 (a : Int), .int .u32 (b : Int), .int .u32 (c0 : Int), .int .u32 (c1 : Int), .int .u32 (c2 : Int), .int .u32 (c3 : Int), .int .u32 (c4 : Int)], .agg #[.int .i64 (op : Int), .int .i64 (rd : Int), .int .i64 (r1 : Int), .int .i64 (r2 : Int), .int .i32 imm], .agg #[.int .u32 (pc : Int), .int .u32 0, .int .i64 0, .bool false, .int .u32 0, .int .u32 0, .int .i64 0, .int .u32 (next : Int), .int .u32 (c0 : Int), .int .u32 (c1 : Int), .int .u32 (c2 : Int), .int .u32 (c3 : Int), .int .u32 (c4 : Int)], _] _ _
  go_enter Tryz.func124, Tryz.ntmps124
  go_wp2_with (first
    | (go_at_call 119; go_in)
    | go_back)
  refine (X.out _).mono ?_
  rintro e z1 ⟨rfl, rfl⟩
  go_wp2_with (fail)
  have B1 := hl2 zz (.cells (seenC pc w a b [c0, c1, c2, c3, c4]).toArray 115) (.cells (InstV.arr ⟨op, rd, r1, r2, imm⟩) 69)
  have B2 := hl3 zz (.cells (seenC pc w a b [c0, c1, c2, c3, c4]).toArray 115) (.cells (InstV.arr ⟨op, rd, r1, r2, imm⟩) 69) (.cells (mk0 pc next [c0, c1, c2, c3, c4]).cells.toArray 120)
  have B3 := hl4 zz (.cells (seenC pc w a b [c0, c1, c2, c3, c4]).toArray 115) (.cells (InstV.arr ⟨op, rd, r1, r2, imm⟩) 69) (.cells (mk0 pc next [c0, c1, c2, c3, c4]).cells.toArray 120) (.cells zMade.cells.toArray 120)
  have C1 := Lib.hid (heap_old (heap_old (heap_old B1 (.cells (mk0 pc next [c0, c1, c2, c3, c4]).cells.toArray 120)) (.cells zMade.cells.toArray 120)) (.cells (InstV.arr ⟨op, rd, r1, r2, imm⟩) 69))
  have C2 := Lib.hid (heap_old (heap_old B2 (.cells zMade.cells.toArray 120)) (.cells (InstV.arr ⟨op, rd, r1, r2, imm⟩) 69))
  have C3 := Lib.hid (heap_old B3 (.cells (InstV.arr ⟨op, rd, r1, r2, imm⟩) 69))
  have U := Lib.hid ((((((Upd.refl [] zz).alloc (.cells (seenC pc w a b [c0, c1, c2, c3, c4]).toArray 115)).alloc (.cells (InstV.arr ⟨op, rd, r1, r2, imm⟩) 69)).alloc (.cells (mk0 pc next [c0, c1, c2, c3, c4]).cells.toArray 120)).alloc (.cells zMade.cells.toArray 120)).alloc (.cells (InstV.arr ⟨op, rd, r1, r2, imm⟩) 69))
  clear B1 B2 B3
  generalize hW : World.alloc (World.alloc (World.alloc (World.alloc (World.alloc zz _) _) _) _) _ = W
  have hW2 : ((((zz.alloc (.cells (seenC pc w a b [c0, c1, c2, c3, c4]).toArray 115)).alloc (.cells (InstV.arr ⟨op, rd, r1, r2, imm⟩) 69)).alloc (.cells (mk0 pc next [c0, c1, c2, c3, c4]).cells.toArray 120)).alloc (.cells zMade.cells.toArray 120)).alloc (.cells (InstV.arr ⟨op, rd, r1, r2, imm⟩) 69) = W := hW
  rw [hW2] at C1 C2 C3 U
  clear hW hW2
  have R1 := Lib.hid (fun x : Near [zz.heap.size + 1 + 1] W => row_range (x.2.keep C1.out (by simp)))
  have n0 : ∀ x : Near [zz.heap.size + 1 + 1] W, x.1.cell? ⟨zz.heap.size + 1, 0, none⟩ = some (.int .i64 (op : Int)) := fun x => by rw [cells_of (x.2.keep C1.out (by simp))]; rfl
  refine wp_region_plan (fun z => ∃ x : Near [zz.heap.size + 1 + 1] W, z = x.1) [([0, 1, 2, 3, 4], 5), ([], 6)] [] (by kernel_rfl) (by kernel_rfl) (by kernel_rfl) (by kernel_rfl) (fun _ d _ _ _ h => by cases d <;> exact h) ⟨⟨(W).drew, (Upd.refl _ _).drew⟩, rfl⟩ ?_
  refine plan_next ?_
  simp only [opsAt, List.map_cons, List.map_nil, List.getElem?_toArray, List.getElem?_cons_zero, List.getElem?_cons_succ, Option.getD_some]
  repeat (first
    | go_big_quiet_step (fail)
    | (refine Q_load 69 (.tmp 5) rfl (by kernel_rfl) _ _ rfl (InstV.arr ⟨op, rd, r1, r2, imm⟩) (by rintro _ ⟨y, rfl⟩; exact R1.out y) Tryz.underlying69 rfl 5 info_inst rfl ?_; go_simp))
  refine wpQuiet_nil ?_
  refine plan_one rfl ?_
  go_wp2_with fail
  refine (Y.out _).mono ?_
  rintro e z1 ⟨rfl, rfl⟩
  go_wp2_with fail
  refine plan_same ⟨⟨_, (Upd.refl _ _).drew⟩, rfl⟩ ?_
  refine plan_next ?_
  simp only [opsAt, List.map_cons, List.map_nil, List.getElem?_toArray, List.getElem?_cons_zero, List.getElem?_cons_succ, Option.getD_some]
  repeat (go_big_quiet_step (fail))
  refine wpQuiet_nil ?_
  refine plan_one rfl ?_
  go_wp2_with fail
  refine (write_calls (zz.heap.size + 1 + 1) ld ⟨op, rd, r1, r2, imm⟩ (mk0 pc next [c0, c1, c2, c3, c4]) _ (show (World.drew W).heap[zz.heap.size + 1 + 1]? = _ from C2.out)).mono ?_
  rintro e w4 ⟨rfl, hb4, u4⟩
  have K3 := Lib.hid (u4.keep (show (World.drew W).heap[zz.heap.size + 1 + 1 + 1]? = _ from C3.out) (by simp))
  have V4 := Lib.hid (((Upd.refl [zz.heap.size + 1 + 1] W).drew).trans u4)
  have hM : (if rd = 0 then mk0 pc next [c0, c1, c2, c3, c4] else { mk0 pc next [c0, c1, c2, c3, c4] with r := { (mk0 pc next [c0, c1, c2, c3, c4]).r with val := (ld : Int), rd := (rd : Int) } }) = (⟨writeR pc rd ld, next, [c0, c1, c2, c3, c4]⟩ : MadeV) := by
    unfold writeR mk0; split <;> rfl
  rw [hM] at hb4
  have K4 := Lib.hid hb4
  clear hb4 u4 hM
  go_wp2_with fail
  refine plan_same ⟨⟨_, V4.out⟩, rfl⟩ ?_
  refine plan_last ?_
  simp only [opsAt, List.map_cons, List.map_nil, List.getElem?_toArray, List.getElem?_cons_zero, List.getElem?_cons_succ, Option.getD_some]
  repeat (go_big_quiet_step (fail))
  refine wpQuiet_nil ?_
  unfold planEnd
  generalize hMM : (⟨writeR pc rd ld, next, [c0, c1, c2, c3, c4]⟩ : MadeV) = MM at K4
  have HMM := Lib.hid hMM
  clear hMM n0
  go_wp2_with (first
    | go_skip
    | ((with_reducible refine at_op 38 ?_); refine L_load 120 (.tmp 6) rfl (by kernel_rfl) _ _ rfl MM.cells.toArray (row_range K4.out) Tryz.underlying120 rfl 13 info_made rfl ?_)
    | ((with_reducible refine at_st 8 ?_); refine L_store_row 120 (.tmp 8) (.tmp 38) rfl (by kernel_rfl) (zz.heap.size + 1 + 1 + 1) 0 rfl zMade.cells 120 K3.out MM.cells.toArray rfl 13 info_made rfl (by decide) (MadeV.one _) ?_))
  intro wZ bZ uZ zZ
  rw [spl_all (by rfl)] at bZ
  go_wp2_with (fail)
  refine bodyPost_ret (results_cell_row rfl _ _ (zz.heap.size + 1 + 1 + 1) 120 MM.cells.toArray _ _ rfl bZ Tryz.underlying120 rfl info_made) rfl ⟨by rw [← HMM.out], ?_⟩
  exact (U.out.then V4.out (fun x hx hlt => by simp at hx; omega)).then uZ (fun x hx hlt => by simp at hx; omega)
end Go.Proofs.YtmdjhahafjlebaaGreatDoor

namespace Go.Proofs.YtmdjhahafjlebaaGreatDoor
open Go.RowKit Go.Dio
set_option linter.unusedSimpArgs false
set_option linter.unusedVariables false

theorem idx_cases (c : Int) : idxP c = -1 ∨ ∃ k : Nat, k < 5 ∧ idxP c = (k : Int) := by
  unfold idxP
  split
  · exact .inr ⟨0, by decide, rfl⟩
  split
  · exact .inr ⟨1, by decide, rfl⟩
  split
  · exact .inr ⟨2, by decide, rfl⟩
  split
  · exact .inr ⟨3, by decide, rfl⟩
  split
  · exact .inr ⟨4, by decide, rfl⟩
  exact .inl rfl
def csr1 (op r1 a : Nat) : Nat := if 53 ≤ op then r1 else a
def csr2 (op n old : Nat) : Nat := if op = 51 ∨ op = 54 then n ||| old else if op = 52 ∨ op = 55 then old &&& (4294967295 ^^^ n) else n
def csr3 (op r1 n old : Nat) : Nat := if r1 = 0 ∧ op ≠ 50 ∧ op ≠ 53 then old else n
def csr4 (k n : Nat) : Nat := if k = 0 ∨ k = 2 then low2 n else n
theorem csrN_eq (op r1 a old : Nat) : csrN op r1 a old = csr3 op r1 (csr2 op (csr1 op r1 a) old) old := rfl
theorem csrP_trap (pc w a : Nat) (cs : List Nat) (i : InstV) (h : idxP i.imm = -1) : csrP pc w a cs i = trapP pc cs 2 w := by unfold csrP; rw [h]; rfl
theorem csrP_ok (pc w a : Nat) (cs : List Nat) (i : InstV) (k : Nat) (h : idxP i.imm = (k : Int)) :
    csrP pc w a cs i = ⟨writeR pc i.rd (nth cs k), u32 ((pc : Int) + 4), cs.set k (csr4 k (csr3 i.op i.r1 (csr2 i.op (csr1 i.op i.r1 a) (nth cs k)) (nth cs k)))⟩ := by
  unfold csrP
  rw [h, if_neg (by omega)]
  simp only [Int.toNat_natCast, csrN_eq]
  rfl
theorem set5 (M : MadeV) (c0 c1 c2 c3 c4 k n : Nat) (hk : k < 5) (hM : M.csrs = [c0, c1, c2, c3, c4]) : M.cells.set (8 + k) (.int .u32 (n : Int)) = MadeV.cells { M with csrs := M.csrs.set k n } := by
  obtain ⟨r, next, cs⟩ := M
  dsimp only at hM
  subst hM
  rcases (by omega : k = 0 ∨ k = 1 ∨ k = 2 ∨ k = 3 ∨ k = 4) with rfl | rfl | rfl | rfl | rfl <;> rfl
set_option maxRecDepth 20000 in
set_option maxHeartbeats 8000000 in
theorem csr_calls (pc w a b : Nat) (i : InstV) (cs : List Nat) (zz : World) (hp : pc < 2 ^ 32) (ha : a < 2 ^ 32) (hcs : ∀ k, nth cs k < 2 ^ 32) (h5 : cs.length = 5) (ho : 50 ≤ i.op ∧ i.op ≤ 55) (hr : i.r1 < 32) (him : -2147483648 ≤ i.imm ∧ i.imm ≤ 2147483647) :
    Calls Tryz.prog 121 #[.agg (seenC pc w a b cs).toArray, .agg i.arr, .agg (mk0 pc (u32 ((pc : Int) + 4)) cs).cells.toArray] zz fun e z' =>
      e = .returned (.agg (csrP pc w a cs i).cells.toArray) ∧ Upd [] zz z' := by
  have hT := csrP_trap pc w a cs i
  have hO := csrP_ok pc w a cs i
  obtain ⟨D, hD⟩ : ∃ D, D = csrP pc w a cs i := ⟨_, rfl⟩
  rw [← hD] at hT hO ⊢
  clear hD
  obtain ⟨c0, c1, c2, c3, c4, rfl⟩ := csr5 h5
  obtain ⟨op, rd, r1, r2, imm⟩ := i
  dsimp only at hT hO ho hr him ⊢
  generalize u32 ((pc : Int) + 4) = next at *
  have wi : IntKind.i64.wrap imm = imm := by rw [IntKind.wrap_i64]; omega
  have hx := idx_cases imm
  have X := Lib.hid (fun z => index_exact imm z)
  generalize idxP imm = ix at *
  show Calls _ _ #[.agg #[.int .u32 (pc : Int), .int .u32 (w : Int), .int .u32 (a : Int), .int .u32 (b : Int), .int .u32 (c0 : Int), .int .u32 (c1 : Int), .int .u32 (c2 : Int), .int .u32 (c3 : Int), .int .u32 (c4 : Int)], .agg #[.int .i64 (op : Int), .int .i64 (rd : Int), .int .i64 (r1 : Int), .int .i64 (r2 : Int), .int .i32 imm], .agg #[.int .u32 (pc : Int), .int .u32 0, .int .i64 0, .bool false, .int .u32 0, .int .u32 0, .int .i64 0, .int .u32 (next : Int), .int .u32 (c0 : Int), .int .u32 (c1 : Int), .int .u32 (c2 : Int), .int .u32 (c3 : Int), .int .u32 (c4 : Int)]] _ _
  go_enter Tryz.func121, Tryz.ntmps121
  go_wp2_with (fail)
  refine (X.out _).mono ?_
  rintro e z1 ⟨rfl, rfl⟩
  have B0 := hl1 zz (.cells (seenC pc w a b [c0, c1, c2, c3, c4]).toArray 115)
  have B1 := hl2 zz (.cells (seenC pc w a b [c0, c1, c2, c3, c4]).toArray 115) (.cells (InstV.arr ⟨op, rd, r1, r2, imm⟩) 69)
  have B2 := hl3 zz (.cells (seenC pc w a b [c0, c1, c2, c3, c4]).toArray 115) (.cells (InstV.arr ⟨op, rd, r1, r2, imm⟩) 69) (.cells (mk0 pc next [c0, c1, c2, c3, c4]).cells.toArray 120)
  have B3 := hl4 zz (.cells (seenC pc w a b [c0, c1, c2, c3, c4]).toArray 115) (.cells (InstV.arr ⟨op, rd, r1, r2, imm⟩) 69) (.cells (mk0 pc next [c0, c1, c2, c3, c4]).cells.toArray 120) (.cells zMade.cells.toArray 120)
  have C0 := Lib.hid (heap_old (heap_old (heap_old (heap_old B0 (.cells (InstV.arr ⟨op, rd, r1, r2, imm⟩) 69)) (.cells (mk0 pc next [c0, c1, c2, c3, c4]).cells.toArray 120)) (.cells zMade.cells.toArray 120)) (.cells (nums .i64 csrL) 3))
  have C1 := Lib.hid (heap_old (heap_old (heap_old B1 (.cells (mk0 pc next [c0, c1, c2, c3, c4]).cells.toArray 120)) (.cells zMade.cells.toArray 120)) (.cells (nums .i64 csrL) 3))
  have C2 := Lib.hid (heap_old (heap_old B2 (.cells zMade.cells.toArray 120)) (.cells (nums .i64 csrL) 3))
  have C3 := Lib.hid (heap_old B3 (.cells (nums .i64 csrL) 3))
  have U := Lib.hid ((((((Upd.refl [] zz).alloc (.cells (seenC pc w a b [c0, c1, c2, c3, c4]).toArray 115)).alloc (.cells (InstV.arr ⟨op, rd, r1, r2, imm⟩) 69)).alloc (.cells (mk0 pc next [c0, c1, c2, c3, c4]).cells.toArray 120)).alloc (.cells zMade.cells.toArray 120)).alloc (.cells (nums .i64 csrL) 3))
  clear B0 B1 B2 B3
  generalize hW : World.alloc (World.alloc (World.alloc (World.alloc (World.alloc zz _) _) _) _) _ = W
  have hW2 : ((((zz.alloc (.cells (seenC pc w a b [c0, c1, c2, c3, c4]).toArray 115)).alloc (.cells (InstV.arr ⟨op, rd, r1, r2, imm⟩) 69)).alloc (.cells (mk0 pc next [c0, c1, c2, c3, c4]).cells.toArray 120)).alloc (.cells zMade.cells.toArray 120)).alloc (.cells (nums .i64 csrL) 3) = W := hW
  rw [hW2] at C0 C1 C2 C3 U
  clear hW hW2
  have s1 : W.cell? ⟨zz.heap.size, 1, none⟩ = some (.int .u32 (w : Int)) := by rw [cells_of C0.out]; rfl
  have s2 : W.cell? ⟨zz.heap.size, 2, none⟩ = some (.int .u32 (a : Int)) := by rw [cells_of C0.out]; rfl
  have i0 : W.cell? ⟨zz.heap.size + 1, 0, none⟩ = some (.int .i64 (op : Int)) := by rw [cells_of C1.out]; rfl
  have i2 : W.cell? ⟨zz.heap.size + 1, 2, none⟩ = some (.int .i64 (r1 : Int)) := by rw [cells_of C1.out]; rfl
  rcases hx with rfl | ⟨k, hk, rfl⟩
  · have HD := Lib.hid (hT rfl)
    clear hT hO
    go_wp2_with (first
      | go_skip
      | ((with_reducible refine at_op 16 ?_); refine L_load 115 (.tmp 3) rfl (by kernel_rfl) _ _ rfl (seenC pc w a b [c0, c1, c2, c3, c4]).toArray (row_range C0.out) Tryz.underlying115 rfl 9 info_seen rfl ?_))
    refine (trap_calls pc w a b 2 w [c0, c1, c2, c3, c4] _ hp (by decide) rfl).mono ?_
    rintro e z1 ⟨rfl, rfl⟩
    generalize hMM : trapP pc [c0, c1, c2, c3, c4] 2 w = MM
    have HMM := Lib.hid hMM
    clear hMM
    go_wp2_with (first
      | go_skip
      | ((with_reducible refine at_st 6 ?_); refine L_store_row 120 (.tmp 6) (.tmp 19) rfl (by kernel_rfl) (zz.heap.size + 1 + 1 + 1) 0 rfl zMade.cells 120 (heap_old (heap_old (heap_old C3.out _) _) _) MM.cells.toArray rfl 13 info_made rfl (by decide) (MadeV.one _) ?_))
    intro wZ bZ uZ zZ
    rw [spl_all (by rfl)] at bZ
    go_wp2_with (fail)
    refine bodyPost_ret (results_cell_row rfl _ _ (zz.heap.size + 1 + 1 + 1) 120 MM.cells.toArray _ _ rfl bZ Tryz.underlying120 rfl info_made) rfl ⟨by rw [HD.out, HMM.out], ?_⟩
    exact (((U.out.alloc _).alloc _).alloc _).then uZ (fun x hx hlt => by simp at hx; omega)
  · have HD := Lib.hid (hO k rfl)
    clear hT hO
    have sk : W.cell? ⟨zz.heap.size, 4 + k, none⟩ = some (.int .u32 ((nth [c0, c1, c2, c3, c4] k : Nat) : Int)) := by
      rw [cells_of C0.out]
      rcases (by omega : k = 0 ∨ k = 1 ∨ k = 2 ∨ k = 3 ∨ k = 4) with rfl | rfl | rfl | rfl | rfl <;> rfl
    have hold := hcs k
    generalize nth [c0, c1, c2, c3, c4] k = old at *
    have dk : decide ((k : Int) < 0) = false := decide_eq_false (by omega)
    have dk5 : decide ((k : Int) < 5) = true := decide_eq_true (by omega)
    have wr1 : IntKind.u32.wrap (r1 : Int) = (r1 : Int) := wrap32 (by omega) (by omega)
    go_upto_if 24 with (fail)
    go_cut [8] (fun v8 wc => ∃ n : Nat, v8 = .int .u32 (n : Int) ∧ n < 2 ^ 32 ∧ Hid (n = csr1 op r1 a) ∧ Hid (wc = W))
    case first =>
      by_cases h53 : 53 ≤ op
      · have d : decide ((53 : Int) ≤ (op : Int)) = true := decide_eq_true (by omega)
        go_wp2_with (fail)
        go_meet
        case rel => exact ⟨r1, rfl, by omega, Lib.hid (if_pos h53).symm, Lib.hid rfl⟩
      · have d : decide ((53 : Int) ≤ (op : Int)) = false := decide_eq_false (by omega)
        go_wp2_with (fail)
        go_meet
        case rel => exact ⟨a, rfl, ha, Lib.hid (if_neg h53).symm, Lib.hid rfl⟩
    case rest =>
      obtain ⟨n1, rfl, hn1, H1, HX⟩ := hcut
      obtain rfl : W = wc := HX.out.symm
      clear HX
      go_wp2_with (first
        | go_skip
        | ((with_reducible refine at_op 32 ?_); refine L_load 69 (.tmp 4) rfl (by kernel_rfl) _ _ rfl (InstV.arr ⟨op, rd, r1, r2, imm⟩) (row_range C1.out) Tryz.underlying69 rfl 5 info_inst rfl ?_))
      refine (write_calls (zz.heap.size + 1 + 1) old ⟨op, rd, r1, r2, imm⟩ (mk0 pc next [c0, c1, c2, c3, c4]) _ C2.out).mono ?_
      rintro e w4 ⟨rfl, hb4, u4⟩
      have hM : (if rd = 0 then mk0 pc next [c0, c1, c2, c3, c4] else { mk0 pc next [c0, c1, c2, c3, c4] with r := { (mk0 pc next [c0, c1, c2, c3, c4]).r with val := (old : Int), rd := (rd : Int) } }) = (⟨writeR pc rd old, next, [c0, c1, c2, c3, c4]⟩ : MadeV) := by
        unfold writeR mk0; split <;> rfl
      rw [hM] at hb4
      have K1 := Lib.hid (u4.keep C1.out (by simp))
      have K3 := Lib.hid (u4.keep C3.out (by simp))
      have K4 := Lib.hid hb4
      have U4 := Lib.hid (U.out.then u4 (fun x hx hlt => by simp at hx; omega))
      clear hb4 u4 hM C0 C1 C2 C3 U s1 s2 i0 i2 sk
      generalize hMM : (⟨writeR pc rd old, next, [c0, c1, c2, c3, c4]⟩ : MadeV) = MM at K4
      have HMM := Lib.hid hMM
      have hcr : MM.csrs = [c0, c1, c2, c3, c4] := by rw [← hMM]
      clear hMM
      have i0 : w4.cell? ⟨zz.heap.size + 1, 0, none⟩ = some (.int .i64 (op : Int)) := by rw [cells_of K1.out]; rfl
      have i2 : w4.cell? ⟨zz.heap.size + 1, 2, none⟩ = some (.int .i64 (r1 : Int)) := by rw [cells_of K1.out]; rfl
      go_upto_block 0 with (fail)
      go_cut [8] (fun v8 wc => ∃ n : Nat, v8 = .int .u32 (n : Int) ∧ n < 2 ^ 32 ∧ Hid (n = csr2 op n1 old) ∧ Hid (wc = w4))
      case first =>
        rcases (by omega : op = 50 ∨ op = 51 ∨ op = 52 ∨ op = 53 ∨ op = 54 ∨ op = 55) with rfl | rfl | rfl | rfl | rfl | rfl
        · go_wp2_with (fail)
          go_meet
          case rel => exact ⟨n1, rfl, hn1, Lib.hid rfl, Lib.hid rfl⟩
        · have h1 := or32 n1 old hn1 hold
          have h2 := Nat.or_lt_two_pow hn1 hold
          have HE := Lib.hid (show csr2 51 n1 old = n1 ||| old from rfl)
          generalize n1 ||| old = x at *
          go_wp2_with (fail)
          go_meet
          case rel => exact ⟨x, rfl, h2, Lib.hid HE.out.symm, Lib.hid rfl⟩
        · have h1 := andnot32 old n1 hold hn1
          have h2 : old &&& (4294967295 ^^^ n1) < 2 ^ 32 := Nat.lt_of_le_of_lt Nat.and_le_left hold
          have HE := Lib.hid (show csr2 52 n1 old = old &&& (4294967295 ^^^ n1) from rfl)
          generalize old &&& (4294967295 ^^^ n1) = x at *
          go_wp2_with (fail)
          go_meet
          case rel => exact ⟨x, rfl, h2, Lib.hid HE.out.symm, Lib.hid rfl⟩
        · go_wp2_with (fail)
          go_meet
          case rel => exact ⟨n1, rfl, hn1, Lib.hid rfl, Lib.hid rfl⟩
        · have h1 := or32 n1 old hn1 hold
          have h2 := Nat.or_lt_two_pow hn1 hold
          have HE := Lib.hid (show csr2 54 n1 old = n1 ||| old from rfl)
          generalize n1 ||| old = x at *
          go_wp2_with (fail)
          go_meet
          case rel => exact ⟨x, rfl, h2, Lib.hid HE.out.symm, Lib.hid rfl⟩
        · have h1 := andnot32 old n1 hold hn1
          have h2 : old &&& (4294967295 ^^^ n1) < 2 ^ 32 := Nat.lt_of_le_of_lt Nat.and_le_left hold
          have HE := Lib.hid (show csr2 55 n1 old = old &&& (4294967295 ^^^ n1) from rfl)
          generalize old &&& (4294967295 ^^^ n1) = x at *
          go_wp2_with (fail)
          go_meet
          case rel => exact ⟨x, rfl, h2, Lib.hid HE.out.symm, Lib.hid rfl⟩
      case rest =>
        obtain ⟨n2, rfl, hn2, H2, HX⟩ := hcut
        obtain rfl : w4 = wc := HX.out.symm
        clear HX
        go_upto_region 16 with (fail)
        go_cut [61] (fun v61 wc => v61 = .bool (decide (r1 = 0 ∧ op ≠ 50 ∧ op ≠ 53)) ∧ Hid (wc = w4))
        case first =>
          by_cases h0 : r1 = 0
          · subst h0
            rcases (by omega : op = 50 ∨ op = 51 ∨ op = 52 ∨ op = 53 ∨ op = 54 ∨ op = 55) with rfl | rfl | rfl | rfl | rfl | rfl
            all_goals
              go_wp2_with (fail)
              go_meet
              case rel => exact ⟨rfl, Lib.hid rfl⟩
          · have d0 : ((r1 : Int) == 0) = false := (cast_ne_b h0).1
            have hd : decide (r1 = 0 ∧ op ≠ 50 ∧ op ≠ 53) = false := decide_eq_false (fun h => h0 h.1)
            have HDD := Lib.hid hd
            clear h0 hd
            go_wp2_with (fail)
            go_meet
            case rel => exact ⟨by rw [HDD.out], Lib.hid rfl⟩
        case rest =>
          obtain ⟨rfl, HX⟩ := hcut
          obtain rfl : w4 = wc := HX.out.symm
          clear HX
          have H3 : Hid (csr3 op r1 n2 old = if decide (r1 = 0 ∧ op ≠ 50 ∧ op ≠ 53) = true then old else n2) := Lib.hid (by unfold csr3; simp)
          generalize decide (r1 = 0 ∧ op ≠ 50 ∧ op ≠ 53) = dd at H3 ⊢
          go_upto_if 61 with (fail)
          go_cut [8] (fun v8 wc => ∃ n : Nat, v8 = .int .u32 (n : Int) ∧ n < 2 ^ 32 ∧ Hid (n = csr3 op r1 n2 old) ∧ Hid (wc = w4))
          case first =>
            cases dd
            · go_wp2_with (fail)
              go_meet
              case rel => exact ⟨n2, rfl, hn2, Lib.hid (by rw [H3.out]; rfl), Lib.hid rfl⟩
            · go_wp2_with (fail)
              go_meet
              case rel => exact ⟨old, rfl, hold, Lib.hid (by rw [H3.out]; rfl), Lib.hid rfl⟩
          case rest =>
            obtain ⟨n3, rfl, hn3, H4, HX⟩ := hcut
            obtain rfl : w4 = wc := HX.out.symm
            clear HX H3
            go_upto_region 18 with (fail)
            go_cut [68] (fun v68 wc => v68 = .bool (decide (k = 0 ∨ k = 2)) ∧ Hid (wc = w4))
            case first =>
              rcases (by omega : k = 0 ∨ k = 1 ∨ k = 2 ∨ k = 3 ∨ k = 4) with rfl | rfl | rfl | rfl | rfl
              all_goals
                go_wp2_with (fail)
                go_meet
                case rel => exact ⟨rfl, Lib.hid rfl⟩
            case rest =>
              obtain ⟨rfl, HX⟩ := hcut
              obtain rfl : w4 = wc := HX.out.symm
              clear HX
              have H5 : Hid (csr4 k n3 = if decide (k = 0 ∨ k = 2) = true then low2 n3 else n3) := Lib.hid (by unfold csr4; simp)
              have w2 := and_whole2 n3 hn3
              generalize low2 n3 = n3l at *
              generalize decide (k = 0 ∨ k = 2) = d2 at H5 ⊢
              go_upto_if 68 with (fail)
              go_cut [8] (fun v8 wc => ∃ n : Nat, v8 = .int .u32 (n : Int) ∧ Hid (n = csr4 k n3) ∧ Hid (wc = w4))
              case first =>
                cases d2
                · go_wp2_with (fail)
                  go_meet
                  case rel => exact ⟨n3, rfl, Lib.hid (by rw [H5.out]; rfl), Lib.hid rfl⟩
                · go_wp2_with (fail)
                  go_meet
                  case rel => exact ⟨n3l, rfl, Lib.hid (by rw [H5.out]; rfl), Lib.hid rfl⟩
              case rest =>
                obtain ⟨n4, rfl, H6, HX⟩ := hcut
                obtain rfl : w4 = wc := HX.out.symm
                clear HX H5 w2
                go_wp2_with (first
                  | go_skip
                  | ((with_reducible refine at_st 74 ?_); refine L_store_int 36 (.tmp 74) _ rfl (by kernel_rfl) (zz.heap.size + 1 + 1) (8 + k) rfl MM.cells 120 K4.out .u32 (n4 : Int) rfl info_u1 (show 8 + k < 13 by omega) ?_))
                intro wA bA uA zA
                rw [set5 MM c0 c1 c2 c3 c4 k n4 hk hcr] at bA
                have KA := Lib.hid bA
                have K5 := Lib.hid (uA.keep K3.out (by simp))
                have U5 := Lib.hid (U4.out.then uA (fun x hx hlt => by simp at hx; omega))
                have HF : Hid (({ MM with csrs := MM.csrs.set k n4 } : MadeV) = D) := Lib.hid (by rw [HD.out, ← HMM.out, H6.out, H4.out, H2.out, H1.out])
                clear bA uA zA K1 K3 K4 U4 H1 H2 H4 H6 HMM HD i0 i2
                generalize ({ MM with csrs := MM.csrs.set k n4 } : MadeV) = M2 at KA HF
                go_wp2_with (first
                  | go_skip
                  | ((with_reducible refine at_op 75 ?_); refine L_load 120 (.tmp 5) rfl (by kernel_rfl) _ _ rfl M2.cells.toArray (row_range KA.out) Tryz.underlying120 rfl 13 info_made rfl ?_)
                  | ((with_reducible refine at_st 6 ?_); refine L_store_row 120 (.tmp 6) (.tmp 75) rfl (by kernel_rfl) (zz.heap.size + 1 + 1 + 1) 0 rfl zMade.cells 120 K5.out M2.cells.toArray rfl 13 info_made rfl (by decide) (MadeV.one _) ?_))
                intro wZ bZ uZ zZ
                rw [spl_all (by rfl)] at bZ
                go_wp2_with (fail)
                refine bodyPost_ret (results_cell_row rfl _ _ (zz.heap.size + 1 + 1 + 1) 120 M2.cells.toArray _ _ rfl bZ Tryz.underlying120 rfl info_made) rfl ⟨by rw [HF.out], ?_⟩
                exact U5.out.then uZ (fun x hx hlt => by simp at hx; omega)
end Go.Proofs.YtmdjhahafjlebaaGreatDoor
