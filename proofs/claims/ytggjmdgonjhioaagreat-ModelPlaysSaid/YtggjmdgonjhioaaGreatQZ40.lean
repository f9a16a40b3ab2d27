/- The reference's machine: one instruction: loads, stores, CSRs, traps. -/
import Derived.Test.YtggjmdgonjhioaaGreatQZ39
namespace Go.Proofs.YtggjmdgonjhioaaGreat
open Go.RowKit Go.Dio
set_option linter.unusedSimpArgs false
set_option linter.unusedVariables false

set_option maxRecDepth 20000 in
set_option maxHeartbeats 8000000 in
theorem rdo_csr (rb gb base : Nat) (tv : Value) (s : MSt) (zz : World) (M : RfAt rb gb base tv s zz) (iv : MInv s) (w : Nat) (hw : w < 2 ^ 32) (D : InstV) (hD : D = decodeP w) (h0 : 50 ≤ D.op) :
    Calls Tryz.prog 33 #[.pointer (some ⟨rb, 0, none⟩), .agg D.arr, .int .u32 (w : Int)] zz fun e z' => RfR rb gb base tv (applyM s (csrP s.pc w (nth s.regs D.r1) s.csrs D)) (csrP s.pc w (nth s.regs D.r1) s.csrs D).r zz e z' := by
  have wf := decodeP_wf w
  have us := dec_use w
  rw [← hD] at wf us
  obtain ⟨op, rd, r1, r2, imm⟩ := D
  obtain ⟨ho, hd, h1, h2, him⟩ := wf
  dsimp only at ho hd h1 h2 him h0 ⊢
  have hcs := us.u3
  dsimp only at hcs
  clear us hD
  have hzr : r1 = 0 → nth s.regs r1 = 0 := fun h => by rw [h]; exact iv.z
  have ok := iv.ok
  have hal : nth s.regs r1 < 2 ^ 32 := nthB2 ok.rlt (by decide) _
  have hbl : nth s.regs r2 < 2 ^ 32 := nthB2 ok.rlt (by decide) _
  obtain ⟨av, hav⟩ : ∃ av, av = nth s.regs r1 := ⟨_, rfl⟩
  obtain ⟨bv, hbv⟩ : ∃ bv, bv = nth s.regs r2 := ⟨_, rfl⟩
  rw [← hav] at hal hzr
  rw [← hbv] at hbl
  try rw [← hav]
  try rw [← hbv]
  have HA := Lib.hid hav.symm
  have HB := Lib.hid hbv.symm
  clear hav hbv
  show Calls _ _ #[_, .agg #[.int .i64 (op : Int), .int .i64 (rd : Int), .int .i64 (r1 : Int), .int .i64 (r2 : Int), .int .i32 imm], _] _ _
  have hlt := lt_of_block M.cell
  have hgl := lt_of_block M.mem
  have hown : ∀ g, tv.ownBlock = some g → g < zz.heap.size := fun g hg => (World.ownsRow.lt M.own g hg).2
  have R0 := Lib.hid (hl2 zz (.cells (InstV.arr ⟨op, rd, r1, r2, imm⟩) 50) (.cells (retL ⟨0, 0, 0, false, 0, 0, 0⟩).toArray 38))
  have I0 := Lib.hid (heap_old (hl1 zz (.cells (InstV.arr ⟨op, rd, r1, r2, imm⟩) 50)) (.cells (retL ⟨0, 0, 0, false, 0, 0, 0⟩).toArray 38))
  have U0 := Lib.hid (((Upd.refl [] zz).alloc (.cells (InstV.arr ⟨op, rd, r1, r2, imm⟩) 50)).alloc (.cells (retL ⟨0, 0, 0, false, 0, 0, 0⟩).toArray 38))
  have M0 := Lib.hid (M.upd0 U0.out)
  clear M
  have v1 := wrap_u32 imm
  have v2 := addr_mod s.pc imm
  have v3 := addr_wrap s.pc imm
  have v4 := addr_mod av imm
  have v5 := addr_wrap av imm
  have v6 := wrap_u32 ((s.pc : Int) + 4)
  have v7 := mod_u32 ((s.pc : Int) + 4)
  have F := Lib.hid (fun z => fmt_calls op z ho)
  have b1 : decide ((r1 : Int) < 32) = true := decide_eq_true (by omega)
  have b2 : decide ((r2 : Int) < 32) = true := decide_eq_true (by omega)
  have J := Lib.hid (fun z (m : RfAt rb gb base tv s z) => rcsr_calls rb gb base tv s z m ok.regs ok.csrs ok.clt ok.pc ⟨op, rd, r1, r2, imm⟩ w av hw hal hd h1 hzr ⟨h0, ho⟩ (hcs h0))
  obtain ⟨X, hX⟩ : ∃ X, X = csrP s.pc w av s.csrs ⟨op, rd, r1, r2, imm⟩ := ⟨_, rfl⟩
  rw [← hX] at J ⊢
  have EX : Hid (True ∧ X = X) := Lib.hid ⟨trivial, rfl⟩
  clear hX
  have hfm : fmtP op = 67 := by unfold fmtP; rw [if_neg (by omega), if_neg (by omega), if_neg (by omega), if_neg (by omega), if_neg (by omega), if_neg (by omega), if_neg (by omega), if_pos (by omega)]
  rw [hfm] at F
  have e4 : ((op : Int) == 4) = false := by rw [beq_eq_false_iff_ne]; omega
  have SZ := Lib.hid (fun z => r7size_calls op z ho)
  rw [sizeP_no op (by omega)] at SZ
  go_enter Tryz.func33, Tryz.ntmps33
  go_upto_region 1 with (fail)
  generalize hW : World.alloc (World.alloc zz _) _ = W
  have hW2 : (zz.alloc (.cells (InstV.arr ⟨op, rd, r1, r2, imm⟩) 50)).alloc (.cells (retL ⟨0, 0, 0, false, 0, 0, 0⟩).toArray 38) = W := hW
  rw [hW2] at R0 U0 M0 I0
  clear hW hW2
  have hWz : zz.heap.size + 1 < W.heap.size := lt_of_block R0.out
  have c0 : W.cell? ⟨rb, 0, none⟩ = some (.int .u32 (s.pc : Int)) := by rw [M0.out.cAt 0]; rfl
  have n2 : ∀ x : Near [] W, x.1.cell? ⟨zz.heap.size, 2, none⟩ = some (.int .i64 (r1 : Int)) := fun x => by rw [cells_of (x.2.keep I0.out (by simp))]; rfl
  have n3 : ∀ x : Near [] W, x.1.cell? ⟨zz.heap.size, 3, none⟩ = some (.int .i64 (r2 : Int)) := fun x => by rw [cells_of (x.2.keep I0.out (by simp))]; rfl
  have nr1 : ∀ x : Near [] W, x.1.cell? ⟨rb, 1 + r1, none⟩ = some (.int .u32 (av : Int)) := fun x => by rw [(M0.out.upd0 x.2).cAt, mc_reg s gb tv r1 ok.regs h1, HA.out]
  have nr2 : ∀ x : Near [] W, x.1.cell? ⟨rb, 1 + r2, none⟩ = some (.int .u32 (bv : Int)) := fun x => by rw [(M0.out.upd0 x.2).cAt, mc_reg s gb tv r2 ok.regs h2, HB.out]
  go_wp2_with (fail)
  refine wp_region_plan (fun z => ∃ x : Near [] W, z = x.1) [] [0, 1, 2, 3, 4, 5, 6, 7, 8, 9, 10, 11, 12, 13, 14, 15, 16, 17] (by kernel_rfl) (by kernel_rfl) (by kernel_rfl) (by kernel_rfl) (fun _ d _ _ _ h => by cases d <;> exact h) ⟨⟨(W).drew, (Upd.refl _ _).drew⟩, rfl⟩ ?_
  refine plan_last ?_
  simp only [opsAt, List.map_cons, List.map_nil, List.getElem?_toArray, List.getElem?_cons_zero, List.getElem?_cons_succ, Option.getD_some]
  go_simp
  repeat (go_big_quiet_step (fail))
  refine wpQuiet_nil ?_
  unfold planEnd
  go_upto_region 4 with (fail)
  generalize hX1 : World.drew (World.alloc W _) = W1
  have hX12 : (W.alloc (.cells (retL (pcR s.pc)).toArray 38)).drew = W1 := hX1
  have Q1 : Hid ((W.alloc (.cells (retL (pcR s.pc)).toArray 38)).drew.heap[W.heap.size]? = some (.cells (retL (pcR s.pc)).toArray 38 (0, 0))) := Lib.hid (hl1 W (.cells (retL (pcR s.pc)).toArray 38))
  have U1 := Lib.hid ((U0.out.alloc (.cells (retL (pcR s.pc)).toArray 38)).drew)
  have uq := ((Upd.refl [] W).alloc (.cells (retL (pcR s.pc)).toArray 38)).drew
  rw [hX12] at Q1 U1 uq
  have M1 := Lib.hid (M0.out.upd0 uq)
  have R1 := Lib.hid (uq.keep R0.out (by simp))
  have I1 := Lib.hid (uq.keep I0.out (by simp))
  clear hX1 hX12 M0 R0 I0 U0 c0 n2 n3 nr1 nr2 uq
  generalize W.heap.size = tq at *
  have i0 : W1.cell? ⟨zz.heap.size, 0, none⟩ = some (.int .i64 (op : Int)) := by rw [cells_of I1.out]; rfl
  have i1 : W1.cell? ⟨zz.heap.size, 1, none⟩ = some (.int .i64 (rd : Int)) := by rw [cells_of I1.out]; rfl
  have i4 : W1.cell? ⟨zz.heap.size, 4, none⟩ = some (.int .i32 imm) := by rw [cells_of I1.out]; rfl
  go_wp2_with (fail)
  refine (F.out _).mono ?_
  rintro e zf ⟨rfl, hzf⟩
  subst hzf
  go_wp2_with (fail)
  refine (SZ.out _).mono ?_
  rintro e zs ⟨rfl, hzs⟩
  subst hzs
  go_wp2_with (first
    | go_skip
    | ((with_reducible refine at_op 73 ?_); refine L_load 50 (.tmp 4) rfl (by kernel_rfl) _ _ rfl _ (row_allR I1.out) Tryz.underlying50 rfl 5 info_inst rfl ?_))
  refine (J.out _ M1.out).mono ?_
  rintro e w3 ⟨rfl, m3, u3⟩
  have M3 := Lib.hid m3
  have R3 := Lib.hid (u3.keep R1.out (by simp; omega))
  have V3 := Lib.hid ((U1.out.mono (T := [rb]) (by simp)).trans u3)
  clear m3 u3 M1 R1 U1 I1 Q1
  go_wp2_with (first
    | go_skip
    | ((with_reducible refine at_st 6 ?_); refine L_store_row 38 (.tmp 6) (.tmp 76) rfl (by kernel_rfl) (zz.heap.size + 1) 0 rfl (retL ⟨0, 0, 0, false, 0, 0, 0⟩) 38 R3.out (retL X.r).toArray rfl 7 info_ret rfl (by decide) (retL_one _) ?_))
  intro wA bA uA zA
  rw [spl_all (by rfl)] at bA
  go_wp2_with (fail)
  refine bodyPost_ret (results_cell_row rfl _ _ (zz.heap.size + 1) 38 (retL X.r).toArray _ _ rfl bA Tryz.underlying38 rfl info_ret) rfl ⟨by first | rfl | rw [EX.out] | (rw [EX.out]; rfl), ?_⟩
  try rw [EX.out]
  exact ⟨M3.out.upd uA (by simp; omega) (by simp; omega) (fun g hg => by have := hown g hg; simp; omega), V3.out.then uA (fun x hx hlt => by simp at hx; omega)⟩
set_option maxRecDepth 20000 in
set_option maxHeartbeats 8000000 in
theorem rdo_move (rb gb base : Nat) (tv : Value) (s : MSt) (zz : World) (M : RfAt rb gb base tv s zz) (iv : MInv s) (hbz : base ≤ zz.heap.size) (htr : s.trace.length ≤ 4000) (w : Nat) (hw : w < 2 ^ 32) (D : InstV) (hD : D = decodeP w) (h0 : 11 ≤ D.op ∧ D.op ≤ 18) :
    Calls Tryz.prog 33 #[.pointer (some ⟨rb, 0, none⟩), .agg D.arr, .int .u32 (w : Int)] zz fun e z' => RfF rb gb base tv (finS s (moveX s.pc (nth s.regs D.r2) s.csrs D (u32 (((nth s.regs D.r1 : Nat) : Int) + D.imm)) (nth s.mem (u32 (((nth s.regs D.r1 : Nat) : Int) + D.imm) / 4)))) (moveX s.pc (nth s.regs D.r2) s.csrs D (u32 (((nth s.regs D.r1 : Nat) : Int) + D.imm)) (nth s.mem (u32 (((nth s.regs D.r1 : Nat) : Int) + D.imm) / 4))).r zz e z' := by
  have wf := decodeP_wf w
  have us := dec_use w
  rw [← hD] at wf us
  obtain ⟨op, rd, r1, r2, imm⟩ := D
  obtain ⟨ho, hd, h1, h2, him⟩ := wf
  dsimp only at ho hd h1 h2 him h0 ⊢
  have hcs := us.u3
  dsimp only at hcs
  clear us hD
  have hzr : r1 = 0 → nth s.regs r1 = 0 := fun h => by rw [h]; exact iv.z
  have ok := iv.ok
  have hal : nth s.regs r1 < 2 ^ 32 := nthB2 ok.rlt (by decide) _
  have hbl : nth s.regs r2 < 2 ^ 32 := nthB2 ok.rlt (by decide) _
  obtain ⟨av, hav⟩ : ∃ av, av = nth s.regs r1 := ⟨_, rfl⟩
  obtain ⟨bv, hbv⟩ : ∃ bv, bv = nth s.regs r2 := ⟨_, rfl⟩
  rw [← hav] at hal hzr
  rw [← hbv] at hbl
  try rw [← hav]
  try rw [← hbv]
  have HA := Lib.hid hav.symm
  have HB := Lib.hid hbv.symm
  clear hav hbv
  show Calls _ _ #[_, .agg #[.int .i64 (op : Int), .int .i64 (rd : Int), .int .i64 (r1 : Int), .int .i64 (r2 : Int), .int .i32 imm], _] _ _
  have hlt := lt_of_block M.cell
  have hgl := lt_of_block M.mem
  have hown : ∀ g, tv.ownBlock = some g → g < zz.heap.size := fun g hg => (World.ownsRow.lt M.own g hg).2
  have R0 := Lib.hid (hl2 zz (.cells (InstV.arr ⟨op, rd, r1, r2, imm⟩) 50) (.cells (retL ⟨0, 0, 0, false, 0, 0, 0⟩).toArray 38))
  have I0 := Lib.hid (heap_old (hl1 zz (.cells (InstV.arr ⟨op, rd, r1, r2, imm⟩) 50)) (.cells (retL ⟨0, 0, 0, false, 0, 0, 0⟩).toArray 38))
  have U0 := Lib.hid (((Upd.refl [] zz).alloc (.cells (InstV.arr ⟨op, rd, r1, r2, imm⟩) 50)).alloc (.cells (retL ⟨0, 0, 0, false, 0, 0, 0⟩).toArray 38))
  have M0 := Lib.hid (M.upd0 U0.out)
  clear M
  have v1 := wrap_u32 imm
  have v2 := addr_mod s.pc imm
  have v3 := addr_wrap s.pc imm
  have v4 := addr_mod av imm
  have v5 := addr_wrap av imm
  have v6 := wrap_u32 ((s.pc : Int) + 4)
  have v7 := mod_u32 ((s.pc : Int) + 4)
  have F := Lib.hid (fun z => fmt_calls op z ho)
  have b1 : decide ((r1 : Int) < 32) = true := decide_eq_true (by omega)
  have b2 : decide ((r2 : Int) < 32) = true := decide_eq_true (by omega)
  have hadl := u32_lt ((av : Int) + imm)
  generalize u32 ((av : Int) + imm) = ad at *
  have J := Lib.hid (fun z (m : RfAt rb gb base tv s z) (hz : base ≤ z.heap.size) => raccess_calls rb gb base tv s z m ok hz htr ⟨op, rd, r1, r2, imm⟩ ad bv hadl hbl hd h0)
  obtain ⟨X, hX⟩ : ∃ X, X = moveX s.pc bv s.csrs ⟨op, rd, r1, r2, imm⟩ ad (nth s.mem (ad / 4)) := ⟨_, rfl⟩
  rw [← hX] at J ⊢
  have EX : Hid (True ∧ X = X) := Lib.hid ⟨trivial, rfl⟩
  clear hX
  have e4 : ((op : Int) == 4) = false := by rw [beq_eq_false_iff_ne]; omega
  have SZ := Lib.hid (fun z => r7size_calls op z ho)
  have hsz : 0 < sizeP op := by rcases (by omega : op = 11 ∨ op = 12 ∨ op = 13 ∨ op = 14 ∨ op = 15 ∨ op = 16 ∨ op = 17 ∨ op = 18) with h | h | h | h | h | h | h | h <;> rw [h] <;> decide
  have d0 : decide ((0 : Int) < ((sizeP op : Nat) : Int)) = true := decide_eq_true (by omega)
  have d0' : decide (0 < sizeP op) = true := decide_eq_true hsz
  have d66 : ((fmtP op : Int) == 66) = false := by rw [beq_eq_false_iff_ne]; unfold fmtP; rw [if_neg (by omega), if_neg (by omega)]; split; decide; rw [if_neg (by omega), if_pos (by omega)]; decide
  have d74 : ((fmtP op : Int) == 74) = false := by rw [beq_eq_false_iff_ne]; unfold fmtP; rw [if_neg (by omega), if_neg (by omega)]; split; decide; rw [if_neg (by omega), if_pos (by omega)]; decide
  generalize fmtP op = f at *
  generalize sizeP op = sz at *
  clear hcs
  go_enter Tryz.func33, Tryz.ntmps33
  go_upto_region 1 with (fail)
  generalize hW : World.alloc (World.alloc zz _) _ = W
  have hW2 : (zz.alloc (.cells (InstV.arr ⟨op, rd, r1, r2, imm⟩) 50)).alloc (.cells (retL ⟨0, 0, 0, false, 0, 0, 0⟩).toArray 38) = W := hW
  rw [hW2] at R0 U0 M0 I0
  clear hW hW2
  have hWz : zz.heap.size + 1 < W.heap.size := lt_of_block R0.out
  have c0 : W.cell? ⟨rb, 0, none⟩ = some (.int .u32 (s.pc : Int)) := by rw [M0.out.cAt 0]; rfl
  have n2 : ∀ x : Near [] W, x.1.cell? ⟨zz.heap.size, 2, none⟩ = some (.int .i64 (r1 : Int)) := fun x => by rw [cells_of (x.2.keep I0.out (by simp))]; rfl
  have n3 : ∀ x : Near [] W, x.1.cell? ⟨zz.heap.size, 3, none⟩ = some (.int .i64 (r2 : Int)) := fun x => by rw [cells_of (x.2.keep I0.out (by simp))]; rfl
  have nr1 : ∀ x : Near [] W, x.1.cell? ⟨rb, 1 + r1, none⟩ = some (.int .u32 (av : Int)) := fun x => by rw [(M0.out.upd0 x.2).cAt, mc_reg s gb tv r1 ok.regs h1, HA.out]
  have nr2 : ∀ x : Near [] W, x.1.cell? ⟨rb, 1 + r2, none⟩ = some (.int .u32 (bv : Int)) := fun x => by rw [(M0.out.upd0 x.2).cAt, mc_reg s gb tv r2 ok.regs h2, HB.out]
  go_wp2_with (fail)
  refine wp_region_plan (fun z => ∃ x : Near [] W, z = x.1) [] [0, 1, 2, 3, 4, 5, 6, 7, 8, 9, 10, 11, 12, 13, 14, 15, 16, 17] (by kernel_rfl) (by kernel_rfl) (by kernel_rfl) (by kernel_rfl) (fun _ d _ _ _ h => by cases d <;> exact h) ⟨⟨(W).drew, (Upd.refl _ _).drew⟩, rfl⟩ ?_
  refine plan_last ?_
  simp only [opsAt, List.map_cons, List.map_nil, List.getElem?_toArray, List.getElem?_cons_zero, List.getElem?_cons_succ, Option.getD_some]
  go_simp
  repeat (go_big_quiet_step (fail))
  refine wpQuiet_nil ?_
  unfold planEnd
  go_upto_region 4 with (fail)
  generalize hX1 : World.drew (World.alloc W _) = W1
  have hX12 : (W.alloc (.cells (retL (pcR s.pc)).toArray 38)).drew = W1 := hX1
  have Q1 : Hid ((W.alloc (.cells (retL (pcR s.pc)).toArray 38)).drew.heap[W.heap.size]? = some (.cells (retL (pcR s.pc)).toArray 38 (0, 0))) := Lib.hid (hl1 W (.cells (retL (pcR s.pc)).toArray 38))
  have U1 := Lib.hid ((U0.out.alloc (.cells (retL (pcR s.pc)).toArray 38)).drew)
  have uq := ((Upd.refl [] W).alloc (.cells (retL (pcR s.pc)).toArray 38)).drew
  rw [hX12] at Q1 U1 uq
  have M1 := Lib.hid (M0.out.upd0 uq)
  have R1 := Lib.hid (uq.keep R0.out (by simp))
  have I1 := Lib.hid (uq.keep I0.out (by simp))
  clear hX1 hX12 M0 R0 I0 U0 c0 n2 n3 nr1 nr2 uq
  generalize W.heap.size = tq at *
  have i0 : W1.cell? ⟨zz.heap.size, 0, none⟩ = some (.int .i64 (op : Int)) := by rw [cells_of I1.out]; rfl
  have i1 : W1.cell? ⟨zz.heap.size, 1, none⟩ = some (.int .i64 (rd : Int)) := by rw [cells_of I1.out]; rfl
  have i4 : W1.cell? ⟨zz.heap.size, 4, none⟩ = some (.int .i32 imm) := by rw [cells_of I1.out]; rfl
  go_wp2_with (fail)
  refine (F.out _).mono ?_
  rintro e zf ⟨rfl, hzf⟩
  subst hzf
  go_wp2_with (fail)
  refine (SZ.out _).mono ?_
  rintro e zs ⟨rfl, hzs⟩
  subst hzs
  go_wp2_with (first
    | go_skip
    | ((with_reducible refine at_op 61 ?_); refine L_load 50 (.tmp 4) rfl (by kernel_rfl) _ _ rfl _ (row_allR I1.out) Tryz.underlying50 rfl 5 info_inst rfl ?_))
  refine (J.out _ M1.out (Nat.le_trans hbz U1.out.size)).mono ?_
  rintro e w3 ⟨rfl, tv3, m3, u3, o3⟩
  have hz1 : zz.heap.size + 1 < zs.heap.size := lt_of_block R1.out
  have hnot : ∀ b, b = zz.heap.size + 1 → b ∉ (rb :: gb :: tv.ownBlock.toList) := fun b hb' h => by
    simp only [List.mem_cons, Option.mem_toList] at h
    rcases h with h | h | h
    · omega
    · omega
    · have := hown b h; omega
  have M3 := Lib.hid m3
  have R3 := Lib.hid (u3.keep R1.out (hnot _ rfl))
  have V3 := Lib.hid ((U1.out.mono (T := rb :: gb :: tv.ownBlock.toList) (by simp)).trans u3)
  have O3 := Lib.hid o3
  clear m3 u3 o3 M1 R1 U1 I1 Q1 hnot
  go_wp2_with (first
    | go_skip
    | ((with_reducible refine at_st 6 ?_); refine L_store_row 38 (.tmp 6) (.tmp 68) rfl (by kernel_rfl) (zz.heap.size + 1) 0 rfl (retL ⟨0, 0, 0, false, 0, 0, 0⟩) 38 R3.out (retL X.r).toArray rfl 7 info_ret rfl (by decide) (retL_one _) ?_))
  intro wA bA uA zA
  rw [spl_all (by rfl)] at bA
  go_wp2_with (fail)
  refine bodyPost_ret (results_cell_row rfl _ _ (zz.heap.size + 1) 38 (retL X.r).toArray _ _ rfl bA Tryz.underlying38 rfl info_ret) rfl ⟨by first | rfl | rw [EX.out] | (rw [EX.out]; rfl), ?_⟩
  try rw [EX.out]
  exact ⟨tv3, M3.out.upd uA (by simp; omega) (by simp; omega) (fun g hg => by
    rcases O3.out g hg with h | h
    · have := hown g h; simp; omega
    · simp; omega), V3.out.then uA (fun x hx hlt => by simp at hx; omega), fun g hg => by
    rcases O3.out g hg with h | h
    · exact .inl h
    · exact .inr (by omega)⟩
set_option maxRecDepth 20000 in
set_option maxHeartbeats 8000000 in
theorem rdo_ecall (rb gb base : Nat) (tv : Value) (s : MSt) (zz : World) (M : RfAt rb gb base tv s zz) (iv : MInv s) (w : Nat) (hw : w < 2 ^ 32) (D : InstV) (hD : D = decodeP w) (h0 : D.op = 47) :
    Calls Tryz.prog 33 #[.pointer (some ⟨rb, 0, none⟩), .agg D.arr, .int .u32 (w : Int)] zz fun e z' => RfR rb gb base tv (applyM s (trapP s.pc s.csrs 11 0)) (trapP s.pc s.csrs 11 0).r zz e z' := by
  have wf := decodeP_wf w
  have us := dec_use w
  rw [← hD] at wf us
  obtain ⟨op, rd, r1, r2, imm⟩ := D
  obtain ⟨ho, hd, h1, h2, him⟩ := wf
  dsimp only at ho hd h1 h2 him h0 ⊢
  have hcs := us.u3
  dsimp only at hcs
  clear us hD
  have hzr : r1 = 0 → nth s.regs r1 = 0 := fun h => by rw [h]; exact iv.z
  have ok := iv.ok
  have hal : nth s.regs r1 < 2 ^ 32 := nthB2 ok.rlt (by decide) _
  have hbl : nth s.regs r2 < 2 ^ 32 := nthB2 ok.rlt (by decide) _
  obtain ⟨av, hav⟩ : ∃ av, av = nth s.regs r1 := ⟨_, rfl⟩
  obtain ⟨bv, hbv⟩ : ∃ bv, bv = nth s.regs r2 := ⟨_, rfl⟩
  rw [← hav] at hal hzr
  rw [← hbv] at hbl
  try rw [← hav]
  try rw [← hbv]
  have HA := Lib.hid hav.symm
  have HB := Lib.hid hbv.symm
  clear hav hbv
  show Calls _ _ #[_, .agg #[.int .i64 (op : Int), .int .i64 (rd : Int), .int .i64 (r1 : Int), .int .i64 (r2 : Int), .int .i32 imm], _] _ _
  have hlt := lt_of_block M.cell
  have hgl := lt_of_block M.mem
  have hown : ∀ g, tv.ownBlock = some g → g < zz.heap.size := fun g hg => (World.ownsRow.lt M.own g hg).2
  have R0 := Lib.hid (hl2 zz (.cells (InstV.arr ⟨op, rd, r1, r2, imm⟩) 50) (.cells (retL ⟨0, 0, 0, false, 0, 0, 0⟩).toArray 38))
  have I0 := Lib.hid (heap_old (hl1 zz (.cells (InstV.arr ⟨op, rd, r1, r2, imm⟩) 50)) (.cells (retL ⟨0, 0, 0, false, 0, 0, 0⟩).toArray 38))
  have U0 := Lib.hid (((Upd.refl [] zz).alloc (.cells (InstV.arr ⟨op, rd, r1, r2, imm⟩) 50)).alloc (.cells (retL ⟨0, 0, 0, false, 0, 0, 0⟩).toArray 38))
  have M0 := Lib.hid (M.upd0 U0.out)
  clear M
  have v1 := wrap_u32 imm
  have v2 := addr_mod s.pc imm
  have v3 := addr_wrap s.pc imm
  have v4 := addr_mod av imm
  have v5 := addr_wrap av imm
  have v6 := wrap_u32 ((s.pc : Int) + 4)
  have v7 := mod_u32 ((s.pc : Int) + 4)
  have F := Lib.hid (fun z => fmt_calls op z ho)
  have b1 : decide ((r1 : Int) < 32) = true := decide_eq_true (by omega)
  have b2 : decide ((r2 : Int) < 32) = true := decide_eq_true (by omega)
  subst h0
  have EX : Hid ((trapP s.pc s.csrs 11 0).r = pcR s.pc) := Lib.hid rfl
  have SZ := Lib.hid (fun z => r7size_calls 47 z (by decide))
  rw [show sizeP 47 = 0 from rfl] at SZ
  rw [show fmtP 47 = 78 from rfl] at F
  clear hcs
  go_enter Tryz.func33, Tryz.ntmps33
  go_upto_region 1 with (fail)
  generalize hW : World.alloc (World.alloc zz _) _ = W
  have hW2 : (zz.alloc (.cells (InstV.arr ⟨47, rd, r1, r2, imm⟩) 50)).alloc (.cells (retL ⟨0, 0, 0, false, 0, 0, 0⟩).toArray 38) = W := hW
  rw [hW2] at R0 U0 M0 I0
  clear hW hW2
  have hWz : zz.heap.size + 1 < W.heap.size := lt_of_block R0.out
  have c0 : W.cell? ⟨rb, 0, none⟩ = some (.int .u32 (s.pc : Int)) := by rw [M0.out.cAt 0]; rfl
  have n2 : ∀ x : Near [] W, x.1.cell? ⟨zz.heap.size, 2, none⟩ = some (.int .i64 (r1 : Int)) := fun x => by rw [cells_of (x.2.keep I0.out (by simp))]; rfl
  have n3 : ∀ x : Near [] W, x.1.cell? ⟨zz.heap.size, 3, none⟩ = some (.int .i64 (r2 : Int)) := fun x => by rw [cells_of (x.2.keep I0.out (by simp))]; rfl
  have nr1 : ∀ x : Near [] W, x.1.cell? ⟨rb, 1 + r1, none⟩ = some (.int .u32 (av : Int)) := fun x => by rw [(M0.out.upd0 x.2).cAt, mc_reg s gb tv r1 ok.regs h1, HA.out]
  have nr2 : ∀ x : Near [] W, x.1.cell? ⟨rb, 1 + r2, none⟩ = some (.int .u32 (bv : Int)) := fun x => by rw [(M0.out.upd0 x.2).cAt, mc_reg s gb tv r2 ok.regs h2, HB.out]
  go_wp2_with (fail)
  refine wp_region_plan (fun z => ∃ x : Near [] W, z = x.1) [] [0, 1, 2, 3, 4, 5, 6, 7, 8, 9, 10, 11, 12, 13, 14, 15, 16, 17] (by kernel_rfl) (by kernel_rfl) (by kernel_rfl) (by kernel_rfl) (fun _ d _ _ _ h => by cases d <;> exact h) ⟨⟨(W).drew, (Upd.refl _ _).drew⟩, rfl⟩ ?_
  refine plan_last ?_
  simp only [opsAt, List.map_cons, List.map_nil, List.getElem?_toArray, List.getElem?_cons_zero, List.getElem?_cons_succ, Option.getD_some]
  go_simp
  repeat (go_big_quiet_step (fail))
  refine wpQuiet_nil ?_
  unfold planEnd
  go_upto_region 4 with (fail)
  generalize hX1 : World.drew (World.alloc W _) = W1
  have hX12 : (W.alloc (.cells (retL (pcR s.pc)).toArray 38)).drew = W1 := hX1
  have Q1 : Hid ((W.alloc (.cells (retL (pcR s.pc)).toArray 38)).drew.heap[W.heap.size]? = some (.cells (retL (pcR s.pc)).toArray 38 (0, 0))) := Lib.hid (hl1 W (.cells (retL (pcR s.pc)).toArray 38))
  have U1 := Lib.hid ((U0.out.alloc (.cells (retL (pcR s.pc)).toArray 38)).drew)
  have uq := ((Upd.refl [] W).alloc (.cells (retL (pcR s.pc)).toArray 38)).drew
  rw [hX12] at Q1 U1 uq
  have M1 := Lib.hid (M0.out.upd0 uq)
  have R1 := Lib.hid (uq.keep R0.out (by simp))
  have I1 := Lib.hid (uq.keep I0.out (by simp))
  clear hX1 hX12 M0 R0 I0 U0 c0 n2 n3 nr1 nr2 uq
  generalize W.heap.size = tq at *
  have i0 : W1.cell? ⟨zz.heap.size, 0, none⟩ = some (.int .i64 (47 : Int)) := by rw [cells_of I1.out]; rfl
  have i1 : W1.cell? ⟨zz.heap.size, 1, none⟩ = some (.int .i64 (rd : Int)) := by rw [cells_of I1.out]; rfl
  have i4 : W1.cell? ⟨zz.heap.size, 4, none⟩ = some (.int .i32 imm) := by rw [cells_of I1.out]; rfl
  go_wp2_with (fail)
  refine (F.out _).mono ?_
  rintro e zf ⟨rfl, hzf⟩
  subst hzf
  go_wp2_with (fail)
  refine (SZ.out _).mono ?_
  rintro e zs ⟨rfl, hzs⟩
  subst hzs
  go_wp2_with (fail)
  refine (rtrap_calls rb gb base tv s _ M1.out ok.regs ok.csrs s.pc 11 0 ok.pc (by decide) (by decide)).mono ?_
  rintro e w3 ⟨rfl, m3, u3⟩
  have M3 := Lib.hid m3
  have R3 := Lib.hid (u3.keep R1.out (by simp; omega))
  have V3 := Lib.hid ((U1.out.mono (T := [rb]) (by simp)).trans u3)
  clear m3 u3 M1 R1 U1 I1 Q1
  go_wp2_with (first
    | go_skip
    | ((with_reducible refine at_st 6 ?_); refine L_store_row 38 (.tmp 6) (.tmp 83) rfl (by kernel_rfl) (zz.heap.size + 1) 0 rfl (retL ⟨0, 0, 0, false, 0, 0, 0⟩) 38 R3.out (retL (pcR s.pc)).toArray rfl 7 info_ret rfl (by decide) (retL_one _) ?_))
  intro wA bA uA zA
  rw [spl_all (by rfl)] at bA
  go_wp2_with (fail)
  refine bodyPost_ret (results_cell_row rfl _ _ (zz.heap.size + 1) 38 (retL (pcR s.pc)).toArray _ _ rfl bA Tryz.underlying38 rfl info_ret) rfl ⟨by first | rfl | rw [EX.out] | (rw [EX.out]; rfl), ?_⟩
  try rw [EX.out]
  exact ⟨M3.out.upd uA (by simp; omega) (by simp; omega) (fun g hg => by have := hown g hg; simp; omega), V3.out.then uA (fun x hx hlt => by simp at hx; omega)⟩
set_option maxRecDepth 20000 in
set_option maxHeartbeats 8000000 in
theorem rdo_ebreak (rb gb base : Nat) (tv : Value) (s : MSt) (zz : World) (M : RfAt rb gb base tv s zz) (iv : MInv s) (w : Nat) (hw : w < 2 ^ 32) (D : InstV) (hD : D = decodeP w) (h0 : D.op = 48) :
    Calls Tryz.prog 33 #[.pointer (some ⟨rb, 0, none⟩), .agg D.arr, .int .u32 (w : Int)] zz fun e z' => RfR rb gb base tv (applyM s (trapP s.pc s.csrs 3 0)) (trapP s.pc s.csrs 3 0).r zz e z' := by
  have wf := decodeP_wf w
  have us := dec_use w
  rw [← hD] at wf us
  obtain ⟨op, rd, r1, r2, imm⟩ := D
  obtain ⟨ho, hd, h1, h2, him⟩ := wf
  dsimp only at ho hd h1 h2 him h0 ⊢
  have hcs := us.u3
  dsimp only at hcs
  clear us hD
  have hzr : r1 = 0 → nth s.regs r1 = 0 := fun h => by rw [h]; exact iv.z
  have ok := iv.ok
  have hal : nth s.regs r1 < 2 ^ 32 := nthB2 ok.rlt (by decide) _
  have hbl : nth s.regs r2 < 2 ^ 32 := nthB2 ok.rlt (by decide) _
  obtain ⟨av, hav⟩ : ∃ av, av = nth s.regs r1 := ⟨_, rfl⟩
  obtain ⟨bv, hbv⟩ : ∃ bv, bv = nth s.regs r2 := ⟨_, rfl⟩
  rw [← hav] at hal hzr
  rw [← hbv] at hbl
  try rw [← hav]
  try rw [← hbv]
  have HA := Lib.hid hav.symm
  have HB := Lib.hid hbv.symm
  clear hav hbv
  show Calls _ _ #[_, .agg #[.int .i64 (op : Int), .int .i64 (rd : Int), .int .i64 (r1 : Int), .int .i64 (r2 : Int), .int .i32 imm], _] _ _
  have hlt := lt_of_block M.cell
  have hgl := lt_of_block M.mem
  have hown : ∀ g, tv.ownBlock = some g → g < zz.heap.size := fun g hg => (World.ownsRow.lt M.own g hg).2
  have R0 := Lib.hid (hl2 zz (.cells (InstV.arr ⟨op, rd, r1, r2, imm⟩) 50) (.cells (retL ⟨0, 0, 0, false, 0, 0, 0⟩).toArray 38))
  have I0 := Lib.hid (heap_old (hl1 zz (.cells (InstV.arr ⟨op, rd, r1, r2, imm⟩) 50)) (.cells (retL ⟨0, 0, 0, false, 0, 0, 0⟩).toArray 38))
  have U0 := Lib.hid (((Upd.refl [] zz).alloc (.cells (InstV.arr ⟨op, rd, r1, r2, imm⟩) 50)).alloc (.cells (retL ⟨0, 0, 0, false, 0, 0, 0⟩).toArray 38))
  have M0 := Lib.hid (M.upd0 U0.out)
  clear M
  have v1 := wrap_u32 imm
  have v2 := addr_mod s.pc imm
  have v3 := addr_wrap s.pc imm
  have v4 := addr_mod av imm
  have v5 := addr_wrap av imm
  have v6 := wrap_u32 ((s.pc : Int) + 4)
  have v7 := mod_u32 ((s.pc : Int) + 4)
  have F := Lib.hid (fun z => fmt_calls op z ho)
  have b1 : decide ((r1 : Int) < 32) = true := decide_eq_true (by omega)
  have b2 : decide ((r2 : Int) < 32) = true := decide_eq_true (by omega)
  subst h0
  have EX : Hid ((trapP s.pc s.csrs 3 0).r = pcR s.pc) := Lib.hid rfl
  have SZ := Lib.hid (fun z => r7size_calls 48 z (by decide))
  rw [show sizeP 48 = 0 from rfl] at SZ
  rw [show fmtP 48 = 78 from rfl] at F
  clear hcs
  go_enter Tryz.func33, Tryz.ntmps33
  go_upto_region 1 with (fail)
  generalize hW : World.alloc (World.alloc zz _) _ = W
  have hW2 : (zz.alloc (.cells (InstV.arr ⟨48, rd, r1, r2, imm⟩) 50)).alloc (.cells (retL ⟨0, 0, 0, false, 0, 0, 0⟩).toArray 38) = W := hW
  rw [hW2] at R0 U0 M0 I0
  clear hW hW2
  have hWz : zz.heap.size + 1 < W.heap.size := lt_of_block R0.out
  have c0 : W.cell? ⟨rb, 0, none⟩ = some (.int .u32 (s.pc : Int)) := by rw [M0.out.cAt 0]; rfl
  have n2 : ∀ x : Near [] W, x.1.cell? ⟨zz.heap.size, 2, none⟩ = some (.int .i64 (r1 : Int)) := fun x => by rw [cells_of (x.2.keep I0.out (by simp))]; rfl
  have n3 : ∀ x : Near [] W, x.1.cell? ⟨zz.heap.size, 3, none⟩ = some (.int .i64 (r2 : Int)) := fun x => by rw [cells_of (x.2.keep I0.out (by simp))]; rfl
  have nr1 : ∀ x : Near [] W, x.1.cell? ⟨rb, 1 + r1, none⟩ = some (.int .u32 (av : Int)) := fun x => by rw [(M0.out.upd0 x.2).cAt, mc_reg s gb tv r1 ok.regs h1, HA.out]
  have nr2 : ∀ x : Near [] W, x.1.cell? ⟨rb, 1 + r2, none⟩ = some (.int .u32 (bv : Int)) := fun x => by rw [(M0.out.upd0 x.2).cAt, mc_reg s gb tv r2 ok.regs h2, HB.out]
  go_wp2_with (fail)
  refine wp_region_plan (fun z => ∃ x : Near [] W, z = x.1) [] [0, 1, 2, 3, 4, 5, 6, 7, 8, 9, 10, 11, 12, 13, 14, 15, 16, 17] (by kernel_rfl) (by kernel_rfl) (by kernel_rfl) (by kernel_rfl) (fun _ d _ _ _ h => by cases d <;> exact h) ⟨⟨(W).drew, (Upd.refl _ _).drew⟩, rfl⟩ ?_
  refine plan_last ?_
  simp only [opsAt, List.map_cons, List.map_nil, List.getElem?_toArray, List.getElem?_cons_zero, List.getElem?_cons_succ, Option.getD_some]
  go_simp
  repeat (go_big_quiet_step (fail))
  refine wpQuiet_nil ?_
  unfold planEnd
  go_upto_region 4 with (fail)
  generalize hX1 : World.drew (World.alloc W _) = W1
  have hX12 : (W.alloc (.cells (retL (pcR s.pc)).toArray 38)).drew = W1 := hX1
  have Q1 : Hid ((W.alloc (.cells (retL (pcR s.pc)).toArray 38)).drew.heap[W.heap.size]? = some (.cells (retL (pcR s.pc)).toArray 38 (0, 0))) := Lib.hid (hl1 W (.cells (retL (pcR s.pc)).toArray 38))
  have U1 := Lib.hid ((U0.out.alloc (.cells (retL (pcR s.pc)).toArray 38)).drew)
  have uq := ((Upd.refl [] W).alloc (.cells (retL (pcR s.pc)).toArray 38)).drew
  rw [hX12] at Q1 U1 uq
  have M1 := Lib.hid (M0.out.upd0 uq)
  have R1 := Lib.hid (uq.keep R0.out (by simp))
  have I1 := Lib.hid (uq.keep I0.out (by simp))
  clear hX1 hX12 M0 R0 I0 U0 c0 n2 n3 nr1 nr2 uq
  generalize W.heap.size = tq at *
  have i0 : W1.cell? ⟨zz.heap.size, 0, none⟩ = some (.int .i64 (48 : Int)) := by rw [cells_of I1.out]; rfl
  have i1 : W1.cell? ⟨zz.heap.size, 1, none⟩ = some (.int .i64 (rd : Int)) := by rw [cells_of I1.out]; rfl
  have i4 : W1.cell? ⟨zz.heap.size, 4, none⟩ = some (.int .i32 imm) := by rw [cells_of I1.out]; rfl
  go_wp2_with (fail)
  refine (F.out _).mono ?_
  rintro e zf ⟨rfl, hzf⟩
  subst hzf
  go_wp2_with (fail)
  refine (SZ.out _).mono ?_
  rintro e zs ⟨rfl, hzs⟩
  subst hzs
  go_wp2_with (fail)
  refine (rtrap_calls rb gb base tv s _ M1.out ok.regs ok.csrs s.pc 3 0 ok.pc (by decide) (by decide)).mono ?_
  rintro e w3 ⟨rfl, m3, u3⟩
  have M3 := Lib.hid m3
  have R3 := Lib.hid (u3.keep R1.out (by simp; omega))
  have V3 := Lib.hid ((U1.out.mono (T := [rb]) (by simp)).trans u3)
  clear m3 u3 M1 R1 U1 I1 Q1
  go_wp2_with (first
    | go_skip
    | ((with_reducible refine at_st 6 ?_); refine L_store_row 38 (.tmp 6) (.tmp 90) rfl (by kernel_rfl) (zz.heap.size + 1) 0 rfl (retL ⟨0, 0, 0, false, 0, 0, 0⟩) 38 R3.out (retL (pcR s.pc)).toArray rfl 7 info_ret rfl (by decide) (retL_one _) ?_))
  intro wA bA uA zA
  rw [spl_all (by rfl)] at bA
  go_wp2_with (fail)
  refine bodyPost_ret (results_cell_row rfl _ _ (zz.heap.size + 1) 38 (retL (pcR s.pc)).toArray _ _ rfl bA Tryz.underlying38 rfl info_ret) rfl ⟨by first | rfl | rw [EX.out] | (rw [EX.out]; rfl), ?_⟩
  try rw [EX.out]
  exact ⟨M3.out.upd uA (by simp; omega) (by simp; omega) (fun g hg => by have := hown g hg; simp; omega), V3.out.then uA (fun x hx hlt => by simp at hx; omega)⟩
end Go.Proofs.YtggjmdgonjhioaaGreat
