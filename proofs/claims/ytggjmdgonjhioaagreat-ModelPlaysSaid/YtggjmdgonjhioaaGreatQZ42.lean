/- The reference's machine: one instruction: numbers of two registers, of one and a number. -/
import Derived.Test.YtggjmdgonjhioaaGreatQZ41
namespace Go.Proofs.YtggjmdgonjhioaaGreat
open Go.RowKit Go.Dio
set_option linter.unusedSimpArgs false
set_option linter.unusedVariables false

set_option maxRecDepth 20000 in
set_option maxHeartbeats 8000000 in
theorem rdo_reg (rb gb base : Nat) (tv : Value) (s : MSt) (zz : World) (M : RfAt rb gb base tv s zz) (iv : MInv s) (w : Nat) (hw : w < 2 ^ 32) (D : InstV) (hD : D = decodeP w) (h0 : 28 ≤ D.op ∧ D.op ≤ 45) :
    Calls Tryz.prog 33 #[.pointer (some ⟨rb, 0, none⟩), .agg D.arr, .int .u32 (w : Int)] zz fun e z' => RfR rb gb base tv (applyM s (plainM s.pc (nth s.regs D.r1) (nth s.regs D.r2) D s.csrs)) (plainM s.pc (nth s.regs D.r1) (nth s.regs D.r2) D s.csrs).r zz e z' := by
  have wf := decodeP_wf w
  have us := dec_use w
  rw [← hD] at wf us
  obtain ⟨op, rd, r1, r2, imm⟩ := D
  obtain ⟨ho, hd, h1, h2, him⟩ := wf
  dsimp only at ho hd h1 h2 him h0 ⊢
  have hcs := us.u3
  dsimp only at hcs
  clear us hD
  have hzr : r1 = 0 → nth s.regs r1 = 0 := fun h => by rw [h]; exact iv.z
  have ok := iv.ok
  have hal : nth s.regs r1 < 2 ^ 32 := nthB2 ok.rlt (by decide) _
  have hbl : nth s.regs r2 < 2 ^ 32 := nthB2 ok.rlt (by decide) _
  obtain ⟨av, hav⟩ : ∃ av, av = nth s.regs r1 := ⟨_, rfl⟩
  obtain ⟨bv, hbv⟩ : ∃ bv, bv = nth s.regs r2 := ⟨_, rfl⟩
  rw [← hav] at hal hzr
  rw [← hbv] at hbl
  try rw [← hav]
  try rw [← hbv]
  have HA := Lib.hid hav.symm
  have HB := Lib.hid hbv.symm
  clear hav hbv
  show Calls _ _ #[_, .agg #[.int .i64 (op : Int), .int .i64 (rd : Int), .int .i64 (r1 : Int), .int .i64 (r2 : Int), .int .i32 imm], _] _ _
  have hlt := lt_of_block M.cell
  have hgl := lt_of_block M.mem
  have hown : ∀ g, tv.ownBlock = some g → g < zz.heap.size := fun g hg => (World.ownsRow.lt M.own g hg).2
  have R0 := Lib.hid (hl2 zz (.cells (InstV.arr ⟨op, rd, r1, r2, imm⟩) 50) (.cells (retL ⟨0, 0, 0, false, 0, 0, 0⟩).toArray 38))
  have I0 := Lib.hid (heap_old (hl1 zz (.cells (InstV.arr ⟨op, rd, r1, r2, imm⟩) 50)) (.cells (retL ⟨0, 0, 0, false, 0, 0, 0⟩).toArray 38))
  have U0 := Lib.hid (((Upd.refl [] zz).alloc (.cells (InstV.arr ⟨op, rd, r1, r2, imm⟩) 50)).alloc (.cells (retL ⟨0, 0, 0, false, 0, 0, 0⟩).toArray 38))
  have M0 := Lib.hid (M.upd0 U0.out)
  clear M
  have v1 := wrap_u32 imm
  have v2 := addr_mod s.pc imm
  have v3 := addr_wrap s.pc imm
  have v4 := addr_mod av imm
  have v5 := addr_wrap av imm
  have v6 := wrap_u32 ((s.pc : Int) + 4)
  have v7 := mod_u32 ((s.pc : Int) + 4)
  have F := Lib.hid (fun z => fmt_calls op z ho)
  have b1 : decide ((r1 : Int) < 32) = true := decide_eq_true (by omega)
  have b2 : decide ((r2 : Int) < 32) = true := decide_eq_true (by omega)
  obtain ⟨X, hX⟩ : ∃ X : MadeV, X = plainM s.pc av bv ⟨op, rd, r1, r2, imm⟩ s.csrs := ⟨_, rfl⟩
  rw [← hX]
  have EX0 : X = ⟨writeR s.pc rd (aluP op av bv), u32 ((s.pc : Int) + 4), s.csrs⟩ := by
    rw [hX]; unfold plainM plainR
    rw [if_neg (show ¬ op = 1 by omega), if_neg (show ¬ op = 2 by omega), if_neg (show ¬ (19 ≤ op ∧ op ≤ 27) by omega), if_pos h0]
  have DO := Lib.hid (fun z => r7do_calls op av bv z (by omega) hal hbl)
  have hfm : fmtP op = 82 := by unfold fmtP; rw [if_neg (by omega), if_neg (by omega), if_neg (by omega), if_neg (by omega), if_neg (by omega), if_neg (by omega), if_pos (by omega)]
  rw [hfm] at F
  generalize hval : aluP op av bv = nv at *
  generalize hn4 : u32 ((s.pc : Int) + 4) = n4 at *
  have EX := Lib.hid EX0
  have e4 : ((op : Int) == 4) = false := by rw [beq_eq_false_iff_ne]; omega
  have e47 : ((op : Int) == 47) = false := by rw [beq_eq_false_iff_ne]; omega
  have e48 : ((op : Int) == 48) = false := by rw [beq_eq_false_iff_ne]; omega
  have e49 : ((op : Int) == 49) = false := by rw [beq_eq_false_iff_ne]; omega
  have e1 : ((op : Int) == 1) = false := by rw [beq_eq_false_iff_ne]; omega
  have e2 : ((op : Int) == 2) = false := by rw [beq_eq_false_iff_ne]; omega
  have SZ := Lib.hid (fun z => r7size_calls op z ho)
  rw [sizeP_no op (by omega)] at SZ
  clear hcs hX hn4 hval EX0 h0
  go_enter Tryz.func33, Tryz.ntmps33
  go_upto_region 1 with (fail)
  generalize hW : World.alloc (World.alloc zz _) _ = W
  have hW2 : (zz.alloc (.cells (InstV.arr ⟨op, rd, r1, r2, imm⟩) 50)).alloc (.cells (retL ⟨0, 0, 0, false, 0, 0, 0⟩).toArray 38) = W := hW
  rw [hW2] at R0 U0 M0 I0
  clear hW hW2
  have hWz : zz.heap.size + 1 < W.heap.size := lt_of_block R0.out
  have c0 : W.cell? ⟨rb, 0, none⟩ = some (.int .u32 (s.pc : Int)) := by rw [M0.out.cAt 0]; rfl
  have n2 : ∀ x : Near [] W, x.1.cell? ⟨zz.heap.size, 2, none⟩ = some (.int .i64 (r1 : Int)) := fun x => by rw [cells_of (x.2.keep I0.out (by simp))]; rfl
  have n3 : ∀ x : Near [] W, x.1.cell? ⟨zz.heap.size, 3, none⟩ = some (.int .i64 (r2 : Int)) := fun x => by rw [cells_of (x.2.keep I0.out (by simp))]; rfl
  have nr1 : ∀ x : Near [] W, x.1.cell? ⟨rb, 1 + r1, none⟩ = some (.int .u32 (av : Int)) := fun x => by rw [(M0.out.upd0 x.2).cAt, mc_reg s gb tv r1 ok.regs h1, HA.out]
  have nr2 : ∀ x : Near [] W, x.1.cell? ⟨rb, 1 + r2, none⟩ = some (.int .u32 (bv : Int)) := fun x => by rw [(M0.out.upd0 x.2).cAt, mc_reg s gb tv r2 ok.regs h2, HB.out]
  go_wp2_with (fail)
  refine wp_region_plan (fun z => ∃ x : Near [] W, z = x.1) [] [0, 1, 2, 3, 4, 5, 6, 7, 8, 9, 10, 11, 12, 13, 14, 15, 16, 17] (by kernel_rfl) (by kernel_rfl) (by kernel_rfl) (by kernel_rfl) (fun _ d _ _ _ h => by cases d <;> exact h) ⟨⟨(W).drew, (Upd.refl _ _).drew⟩, rfl⟩ ?_
  refine plan_last ?_
  simp only [opsAt, List.map_cons, List.map_nil, List.getElem?_toArray, List.getElem?_cons_zero, List.getElem?_cons_succ, Option.getD_some]
  go_simp
  repeat (go_big_quiet_step (fail))
  refine wpQuiet_nil ?_
  unfold planEnd
  go_upto_region 4 with (fail)
  generalize hX1 : World.drew (World.alloc W _) = W1
  have hX12 : (W.alloc (.cells (retL (pcR s.pc)).toArray 38)).drew = W1 := hX1
  have Q1 : Hid ((W.alloc (.cells (retL (pcR s.pc)).toArray 38)).drew.heap[W.heap.size]? = some (.cells (retL (pcR s.pc)).toArray 38 (0, 0))) := Lib.hid (hl1 W (.cells (retL (pcR s.pc)).toArray 38))
  have U1 := Lib.hid ((U0.out.alloc (.cells (retL (pcR s.pc)).toArray 38)).drew)
  have uq := ((Upd.refl [] W).alloc (.cells (retL (pcR s.pc)).toArray 38)).drew
  rw [hX12] at Q1 U1 uq
  have M1 := Lib.hid (M0.out.upd0 uq)
  have R1 := Lib.hid (uq.keep R0.out (by simp))
  have I1 := Lib.hid (uq.keep I0.out (by simp))
  clear hX1 hX12 M0 R0 I0 U0 c0 n2 n3 nr1 nr2 uq
  generalize W.heap.size = tq at *
  have i0 : W1.cell? ⟨zz.heap.size, 0, none⟩ = some (.int .i64 (op : Int)) := by rw [cells_of I1.out]; rfl
  have i1 : W1.cell? ⟨zz.heap.size, 1, none⟩ = some (.int .i64 (rd : Int)) := by rw [cells_of I1.out]; rfl
  have i4 : W1.cell? ⟨zz.heap.size, 4, none⟩ = some (.int .i32 imm) := by rw [cells_of I1.out]; rfl
  go_wp2_with (fail)
  refine (F.out _).mono ?_
  rintro e zf ⟨rfl, hzf⟩
  subst hzf
  go_wp2_with (fail)
  refine (SZ.out _).mono ?_
  rintro e zs ⟨rfl, hzs⟩
  subst hzs
  go_wp2_with (fail)
  have n0 : ∀ x : Near [rb] zs, x.1.cell? ⟨zz.heap.size, 0, none⟩ = some (.int .i64 (op : Int)) := fun x => by rw [cells_of (x.2.keep I1.out (by simp; omega))]; rfl
  have n1 : ∀ x : Near [rb] zs, x.1.cell? ⟨zz.heap.size, 1, none⟩ = some (.int .i64 (rd : Int)) := fun x => by rw [cells_of (x.2.keep I1.out (by simp; omega))]; rfl
  have n4' : ∀ x : Near [rb] zs, x.1.cell? ⟨zz.heap.size, 4, none⟩ = some (.int .i32 imm) := fun x => by rw [cells_of (x.2.keep I1.out (by simp; omega))]; rfl
  refine wp_region_segs [([([0, 1, 2, 3, 4, 5, 6, 7], 8), ([], 9)], []), ([([], 10)], [])] (by kernel_rfl) (by kernel_rfl) (by kernel_rfl) (by kernel_rfl) (fun _ d _ _ _ h => by cases d <;> exact h) ?_
  refine segs_part (fun z => ∃ x : Near [rb] zs, z = x.1) ⟨⟨_, (Upd.refl _ _).drew⟩, rfl⟩ ?_
  refine part_next ?_
  simp only [opsAt, List.map_cons, List.map_nil, List.getElem?_toArray, List.getElem?_cons_zero, List.getElem?_cons_succ, Option.getD_some]
  go_simp
  repeat (first
    | go_big_quiet_step (fail)
    | (refine Q_load 38 (.tmp 10) rfl (by kernel_rfl) _ _ rfl (retL (pcR s.pc)).toArray (by rintro _ ⟨y, rfl⟩; exact row_allR (y.2.keep Q1.out (by simp; omega))) Tryz.underlying38 rfl 7 info_ret rfl ?_; go_simp))
  refine wpQuiet_nil ?_
  refine part_one rfl ?_
  go_wp2_with fail
  refine (DO.out _).mono ?_
  rintro e zd ⟨rfl, rfl⟩
  go_wp2_with fail
  refine part_same ⟨⟨_, (Upd.refl _ _).drew⟩, rfl⟩ ?_
  refine part_next ?_
  simp only [opsAt, List.map_cons, List.map_nil, List.getElem?_toArray, List.getElem?_cons_zero, List.getElem?_cons_succ, Option.getD_some]
  go_simp
  repeat (go_big_quiet_step (fail))
  refine wpQuiet_nil ?_
  refine part_one rfl ?_
  go_wp2_with fail
  refine (rput_calls rb gb base tv s _ (M1.out.upd0 (Upd.refl _ _).drew) ok.regs ok.csrs s.pc rd nv hd).mono ?_
  rintro e w3 ⟨rfl, m3, u3⟩
  have U3 := Lib.hid ((Upd.refl [rb] zs).drew.trans u3)
  have M3 := Lib.hid m3
  have R3 := Lib.hid (U3.out.keep R1.out (by simp; omega))
  have Q3 := Lib.hid (U3.out.keep Q1.out (by simp; omega))
  have V3 := Lib.hid ((U1.out.mono (T := [rb]) (by simp)).trans U3.out)
  clear m3 u3
  go_wp2_with fail
  refine part_same ⟨⟨_, U3.out⟩, rfl⟩ ?_
  refine part_last ?_
  simp only [opsAt, List.map_cons, List.map_nil, List.getElem?_toArray, List.getElem?_cons_zero, List.getElem?_cons_succ, Option.getD_some]
  repeat (go_big_quiet_step (fail))
  refine wpQuiet_nil ?_
  unfold partEnd
  refine segs_part (fun z => ∃ x : Near [tq] w3, z = x.1) ⟨⟨_, (Upd.refl _ _)⟩, rfl⟩ ?_
  refine part_next ?_
  simp only [opsAt, List.map_cons, List.map_nil, List.getElem?_toArray, List.getElem?_cons_zero, List.getElem?_cons_succ, Option.getD_some]
  go_simp
  repeat (go_big_quiet_step (fail))
  refine wpQuiet_nil ?_
  refine part_one rfl ?_
  refine L_store_row 38 (.tmp 10) (.tmp 144) rfl (by kernel_rfl) tq 0 rfl (retL (pcR s.pc)) 38 Q3.out (retL (writeR s.pc rd nv)).toArray rfl 7 info_ret rfl (show 0 + 7 ≤ 7 by decide) (retL_one _) ?_
  intro w4 b4 u4 z4
  rw [spl_all (by rfl)] at b4
  have U4 := Lib.hid u4
  have M4 := Lib.hid (M3.out.upd U4.out (by simp; omega) (by simp; omega) (fun g hg => by have := hown g hg; simp; omega))
  have R4 := Lib.hid (U4.out.keep R3.out (by simp; omega))
  have Q4 := Lib.hid b4
  have V4 := Lib.hid (V3.out.then U4.out (fun x hx hlt => by simp at hx; omega))
  clear b4 u4 z4 M3 R3 Q3 V3 U3 n0 n1 n4' M1 R1 U1 I1 Q1
  refine part_same ⟨⟨_, U4.out⟩, rfl⟩ ?_
  refine part_last ?_
  simp only [opsAt, List.map_cons, List.map_nil, List.getElem?_toArray, List.getElem?_cons_zero, List.getElem?_cons_succ, Option.getD_some]
  repeat (go_big_quiet_step (fail))
  refine wpQuiet_nil ?_
  unfold partEnd
  refine segs_end ?_
  go_wp2_with (first
    | go_skip
    | ((with_reducible refine at_st 166 ?_); refine L_store_int 36 (.tmp 166) (.tmp 163) rfl (by kernel_rfl) rb 0 rfl (mcells (putS s rd nv) gb tv) 65 M4.out.cell .u32 (n4 : Int) rfl info_u1 (by rw [mcells_len (putS s rd nv) gb tv (putS_len s rd nv ok.regs) ok.csrs]; decide) ?_))
  intro w8 b8 u8 z8
  rw [mset_pc] at b8
  have M8 : Hid (RfAt rb gb base tv { (putS s rd nv : MSt) with pc := n4 } w8) := Lib.hid (M4.out.set u8 b8 rfl rfl)
  have R8 := Lib.hid (u8.keep R4.out (by simp; omega))
  have Q8 := Lib.hid (u8.keep Q4.out (by simp; omega))
  have V8 := Lib.hid (V4.out.trans u8)
  clear b8 u8 z8
  go_wp2_with (first
    | go_skip
    | ((with_reducible refine at_op 167 ?_); refine L_load 38 (.tmp 10) rfl (by kernel_rfl) _ _ rfl (retL (writeR s.pc rd nv)).toArray (row_allR Q8.out) Tryz.underlying38 rfl 7 info_ret rfl ?_)
    | ((with_reducible refine at_st 6 ?_); refine L_store_row 38 (.tmp 6) (.tmp 167) rfl (by kernel_rfl) (zz.heap.size + 1) 0 rfl (retL ⟨0, 0, 0, false, 0, 0, 0⟩) 38 R8.out (retL (writeR s.pc rd nv)).toArray rfl 7 info_ret rfl (by decide) (retL_one _) ?_))
  intro wA bA uA zA
  rw [spl_all (by rfl)] at bA
  go_wp2_with (fail)
  refine bodyPost_ret (results_cell_row rfl _ _ (zz.heap.size + 1) 38 (retL (writeR s.pc rd nv)).toArray _ _ rfl bA Tryz.underlying38 rfl info_ret) rfl ⟨by rw [EX.out], ?_⟩
  rw [EX.out]
  try rw [applyM_write]
  exact ⟨M8.out.upd uA (by simp; omega) (by simp; omega) (fun g hg => by have := hown g hg; simp; omega), V8.out.then uA (fun x hx hlt => by simp at hx; omega)⟩
set_option maxRecDepth 20000 in
set_option maxHeartbeats 8000000 in
theorem rdo_imm (rb gb base : Nat) (tv : Value) (s : MSt) (zz : World) (M : RfAt rb gb base tv s zz) (iv : MInv s) (w : Nat) (hw : w < 2 ^ 32) (D : InstV) (hD : D = decodeP w) (h0 : 19 ≤ D.op ∧ D.op ≤ 27) :
    Calls Tryz.prog 33 #[.pointer (some ⟨rb, 0, none⟩), .agg D.arr, .int .u32 (w : Int)] zz fun e z' => RfR rb gb base tv (applyM s (plainM s.pc (nth s.regs D.r1) (nth s.regs D.r2) D s.csrs)) (plainM s.pc (nth s.regs D.r1) (nth s.regs D.r2) D s.csrs).r zz e z' := by
  have wf := decodeP_wf w
  have us := dec_use w
  rw [← hD] at wf us
  obtain ⟨op, rd, r1, r2, imm⟩ := D
  obtain ⟨ho, hd, h1, h2, him⟩ := wf
  dsimp only at ho hd h1 h2 him h0 ⊢
  have hcs := us.u3
  dsimp only at hcs
  clear us hD
  have hzr : r1 = 0 → nth s.regs r1 = 0 := fun h => by rw [h]; exact iv.z
  have ok := iv.ok
  have hal : nth s.regs r1 < 2 ^ 32 := nthB2 ok.rlt (by decide) _
  have hbl : nth s.regs r2 < 2 ^ 32 := nthB2 ok.rlt (by decide) _
  obtain ⟨av, hav⟩ : ∃ av, av = nth s.regs r1 := ⟨_, rfl⟩
  obtain ⟨bv, hbv⟩ : ∃ bv, bv = nth s.regs r2 := ⟨_, rfl⟩
  rw [← hav] at hal hzr
  rw [← hbv] at hbl
  try rw [← hav]
  try rw [← hbv]
  have HA := Lib.hid hav.symm
  have HB := Lib.hid hbv.symm
  clear hav hbv
  show Calls _ _ #[_, .agg #[.int .i64 (op : Int), .int .i64 (rd : Int), .int .i64 (r1 : Int), .int .i64 (r2 : Int), .int .i32 imm], _] _ _
  have hlt := lt_of_block M.cell
  have hgl := lt_of_block M.mem
  have hown : ∀ g, tv.ownBlock = some g → g < zz.heap.size := fun g hg => (World.ownsRow.lt M.own g hg).2
  have R0 := Lib.hid (hl2 zz (.cells (InstV.arr ⟨op, rd, r1, r2, imm⟩) 50) (.cells (retL ⟨0, 0, 0, false, 0, 0, 0⟩).toArray 38))
  have I0 := Lib.hid (heap_old (hl1 zz (.cells (InstV.arr ⟨op, rd, r1, r2, imm⟩) 50)) (.cells (retL ⟨0, 0, 0, false, 0, 0, 0⟩).toArray 38))
  have U0 := Lib.hid (((Upd.refl [] zz).alloc (.cells (InstV.arr ⟨op, rd, r1, r2, imm⟩) 50)).alloc (.cells (retL ⟨0, 0, 0, false, 0, 0, 0⟩).toArray 38))
  have M0 := Lib.hid (M.upd0 U0.out)
  clear M
  have v1 := wrap_u32 imm
  have v2 := addr_mod s.pc imm
  have v3 := addr_wrap s.pc imm
  have v4 := addr_mod av imm
  have v5 := addr_wrap av imm
  have v6 := wrap_u32 ((s.pc : Int) + 4)
  have v7 := mod_u32 ((s.pc : Int) + 4)
  have F := Lib.hid (fun z => fmt_calls op z ho)
  have b1 : decide ((r1 : Int) < 32) = true := decide_eq_true (by omega)
  have b2 : decide ((r2 : Int) < 32) = true := decide_eq_true (by omega)
  obtain ⟨X, hX⟩ : ∃ X : MadeV, X = plainM s.pc av bv ⟨op, rd, r1, r2, imm⟩ s.csrs := ⟨_, rfl⟩
  rw [← hX]
  have EX0 : X = ⟨writeR s.pc rd (aluP op av (u32 imm)), u32 ((s.pc : Int) + 4), s.csrs⟩ := by
    rw [hX]; unfold plainM plainR
    rw [if_neg (show ¬ op = 1 by omega), if_neg (show ¬ op = 2 by omega), if_pos h0]
  have DO := Lib.hid (fun z => r7do_calls op av (u32 imm) z (by omega) hal (u32_lt _))
  have hfm : fmtP op = 73 ∨ fmtP op = 72 := by
    unfold fmtP; rw [if_neg (by omega), if_neg (by omega)]; split; exact .inl rfl
    rw [if_neg (by omega), if_neg (by omega), if_pos (by omega)]; exact .inr rfl
  have d66 : ((fmtP op : Int) == 66) = false := by rw [beq_eq_false_iff_ne]; omega
  have d74 : ((fmtP op : Int) == 74) = false := by rw [beq_eq_false_iff_ne]; omega
  have d67 : ((fmtP op : Int) == 67) = false := by rw [beq_eq_false_iff_ne]; omega
  have d82 : ((fmtP op : Int) == 82) = false := by rw [beq_eq_false_iff_ne]; omega
  have d46 : ((op : Int) != 46) = true := by simp; omega
  generalize fmtP op = f at *
  clear hfm
  generalize hval : aluP op av (u32 imm) = nv at *
  generalize hn4 : u32 ((s.pc : Int) + 4) = n4 at *
  have EX := Lib.hid EX0
  have e4 : ((op : Int) == 4) = false := by rw [beq_eq_false_iff_ne]; omega
  have e47 : ((op : Int) == 47) = false := by rw [beq_eq_false_iff_ne]; omega
  have e48 : ((op : Int) == 48) = false := by rw [beq_eq_false_iff_ne]; omega
  have e49 : ((op : Int) == 49) = false := by rw [beq_eq_false_iff_ne]; omega
  have e1 : ((op : Int) == 1) = false := by rw [beq_eq_false_iff_ne]; omega
  have e2 : ((op : Int) == 2) = false := by rw [beq_eq_false_iff_ne]; omega
  have SZ := Lib.hid (fun z => r7size_calls op z ho)
  rw [sizeP_no op (by omega)] at SZ
  clear hcs hX hn4 hval EX0 h0
  go_enter Tryz.func33, Tryz.ntmps33
  go_upto_region 1 with (fail)
  generalize hW : World.alloc (World.alloc zz _) _ = W
  have hW2 : (zz.alloc (.cells (InstV.arr ⟨op, rd, r1, r2, imm⟩) 50)).alloc (.cells (retL ⟨0, 0, 0, false, 0, 0, 0⟩).toArray 38) = W := hW
  rw [hW2] at R0 U0 M0 I0
  clear hW hW2
  have hWz : zz.heap.size + 1 < W.heap.size := lt_of_block R0.out
  have c0 : W.cell? ⟨rb, 0, none⟩ = some (.int .u32 (s.pc : Int)) := by rw [M0.out.cAt 0]; rfl
  have n2 : ∀ x : Near [] W, x.1.cell? ⟨zz.heap.size, 2, none⟩ = some (.int .i64 (r1 : Int)) := fun x => by rw [cells_of (x.2.keep I0.out (by simp))]; rfl
  have n3 : ∀ x : Near [] W, x.1.cell? ⟨zz.heap.size, 3, none⟩ = some (.int .i64 (r2 : Int)) := fun x => by rw [cells_of (x.2.keep I0.out (by simp))]; rfl
  have nr1 : ∀ x : Near [] W, x.1.cell? ⟨rb, 1 + r1, none⟩ = some (.int .u32 (av : Int)) := fun x => by rw [(M0.out.upd0 x.2).cAt, mc_reg s gb tv r1 ok.regs h1, HA.out]
  have nr2 : ∀ x : Near [] W, x.1.cell? ⟨rb, 1 + r2, none⟩ = some (.int .u32 (bv : Int)) := fun x => by rw [(M0.out.upd0 x.2).cAt, mc_reg s gb tv r2 ok.regs h2, HB.out]
  go_wp2_with (fail)
  refine wp_region_plan (fun z => ∃ x : Near [] W, z = x.1) [] [0, 1, 2, 3, 4, 5, 6, 7, 8, 9, 10, 11, 12, 13, 14, 15, 16, 17] (by kernel_rfl) (by kernel_rfl) (by kernel_rfl) (by kernel_rfl) (fun _ d _ _ _ h => by cases d <;> exact h) ⟨⟨(W).drew, (Upd.refl _ _).drew⟩, rfl⟩ ?_
  refine plan_last ?_
  simp only [opsAt, List.map_cons, List.map_nil, List.getElem?_toArray, List.getElem?_cons_zero, List.getElem?_cons_succ, Option.getD_some]
  go_simp
  repeat (go_big_quiet_step (fail))
  refine wpQuiet_nil ?_
  unfold planEnd
  go_upto_region 4 with (fail)
  generalize hX1 : World.drew (World.alloc W _) = W1
  have hX12 : (W.alloc (.cells (retL (pcR s.pc)).toArray 38)).drew = W1 := hX1
  have Q1 : Hid ((W.alloc (.cells (retL (pcR s.pc)).toArray 38)).drew.heap[W.heap.size]? = some (.cells (retL (pcR s.pc)).toArray 38 (0, 0))) := Lib.hid (hl1 W (.cells (retL (pcR s.pc)).toArray 38))
  have U1 := Lib.hid ((U0.out.alloc (.cells (retL (pcR s.pc)).toArray 38)).drew)
  have uq := ((Upd.refl [] W).alloc (.cells (retL (pcR s.pc)).toArray 38)).drew
  rw [hX12] at Q1 U1 uq
  have M1 := Lib.hid (M0.out.upd0 uq)
  have R1 := Lib.hid (uq.keep R0.out (by simp))
  have I1 := Lib.hid (uq.keep I0.out (by simp))
  clear hX1 hX12 M0 R0 I0 U0 c0 n2 n3 nr1 nr2 uq
  generalize W.heap.size = tq at *
  have i0 : W1.cell? ⟨zz.heap.size, 0, none⟩ = some (.int .i64 (op : Int)) := by rw [cells_of I1.out]; rfl
  have i1 : W1.cell? ⟨zz.heap.size, 1, none⟩ = some (.int .i64 (rd : Int)) := by rw [cells_of I1.out]; rfl
  have i4 : W1.cell? ⟨zz.heap.size, 4, none⟩ = some (.int .i32 imm) := by rw [cells_of I1.out]; rfl
  go_wp2_with (fail)
  refine (F.out _).mono ?_
  rintro e zf ⟨rfl, hzf⟩
  subst hzf
  go_wp2_with (fail)
  refine (SZ.out _).mono ?_
  rintro e zs ⟨rfl, hzs⟩
  subst hzs
  go_wp2_with (fail)
  have n0 : ∀ x : Near [rb] zs, x.1.cell? ⟨zz.heap.size, 0, none⟩ = some (.int .i64 (op : Int)) := fun x => by rw [cells_of (x.2.keep I1.out (by simp; omega))]; rfl
  have n1 : ∀ x : Near [rb] zs, x.1.cell? ⟨zz.heap.size, 1, none⟩ = some (.int .i64 (rd : Int)) := fun x => by rw [cells_of (x.2.keep I1.out (by simp; omega))]; rfl
  have n4' : ∀ x : Near [rb] zs, x.1.cell? ⟨zz.heap.size, 4, none⟩ = some (.int .i32 imm) := fun x => by rw [cells_of (x.2.keep I1.out (by simp; omega))]; rfl
  refine wp_region_segs [([([0, 1, 2, 3, 4, 5, 6, 7, 8, 9], 10), ([], 11)], []), ([([], 12)], [])] (by kernel_rfl) (by kernel_rfl) (by kernel_rfl) (by kernel_rfl) (fun _ d _ _ _ h => by cases d <;> exact h) ?_
  refine segs_part (fun z => ∃ x : Near [rb] zs, z = x.1) ⟨⟨_, (Upd.refl _ _).drew⟩, rfl⟩ ?_
  refine part_next ?_
  simp only [opsAt, List.map_cons, List.map_nil, List.getElem?_toArray, List.getElem?_cons_zero, List.getElem?_cons_succ, Option.getD_some]
  go_simp
  repeat (first
    | go_big_quiet_step (fail)
    | (refine Q_load 38 (.tmp 10) rfl (by kernel_rfl) _ _ rfl (retL (pcR s.pc)).toArray (by rintro _ ⟨y, rfl⟩; exact row_allR (y.2.keep Q1.out (by simp; omega))) Tryz.underlying38 rfl 7 info_ret rfl ?_; go_simp))
  refine wpQuiet_nil ?_
  refine part_one rfl ?_
  go_wp2_with fail
  refine (DO.out _).mono ?_
  rintro e zd ⟨rfl, rfl⟩
  go_wp2_with fail
  refine part_same ⟨⟨_, (Upd.refl _ _).drew⟩, rfl⟩ ?_
  refine part_next ?_
  simp only [opsAt, List.map_cons, List.map_nil, List.getElem?_toArray, List.getElem?_cons_zero, List.getElem?_cons_succ, Option.getD_some]
  go_simp
  repeat (go_big_quiet_step (fail))
  refine wpQuiet_nil ?_
  refine part_one rfl ?_
  go_wp2_with fail
  refine (rput_calls rb gb base tv s _ (M1.out.upd0 (Upd.refl _ _).drew) ok.regs ok.csrs s.pc rd nv hd).mono ?_
  rintro e w3 ⟨rfl, m3, u3⟩
  have U3 := Lib.hid ((Upd.refl [rb] zs).drew.trans u3)
  have M3 := Lib.hid m3
  have R3 := Lib.hid (U3.out.keep R1.out (by simp; omega))
  have Q3 := Lib.hid (U3.out.keep Q1.out (by simp; omega))
  have V3 := Lib.hid ((U1.out.mono (T := [rb]) (by simp)).trans U3.out)
  clear m3 u3
  go_wp2_with fail
  refine part_same ⟨⟨_, U3.out⟩, rfl⟩ ?_
  refine part_last ?_
  simp only [opsAt, List.map_cons, List.map_nil, List.getElem?_toArray, List.getElem?_cons_zero, List.getElem?_cons_succ, Option.getD_some]
  repeat (go_big_quiet_step (fail))
  refine wpQuiet_nil ?_
  unfold partEnd
  refine segs_part (fun z => ∃ x : Near [tq] w3, z = x.1) ⟨⟨_, (Upd.refl _ _)⟩, rfl⟩ ?_
  refine part_next ?_
  simp only [opsAt, List.map_cons, List.map_nil, List.getElem?_toArray, List.getElem?_cons_zero, List.getElem?_cons_succ, Option.getD_some]
  go_simp
  repeat (go_big_quiet_step (fail))
  refine wpQuiet_nil ?_
  refine part_one rfl ?_
  refine L_store_row 38 (.tmp 10) (.tmp 160) rfl (by kernel_rfl) tq 0 rfl (retL (pcR s.pc)) 38 Q3.out (retL (writeR s.pc rd nv)).toArray rfl 7 info_ret rfl (show 0 + 7 ≤ 7 by decide) (retL_one _) ?_
  intro w4 b4 u4 z4
  rw [spl_all (by rfl)] at b4
  have U4 := Lib.hid u4
  have M4 := Lib.hid (M3.out.upd U4.out (by simp; omega) (by simp; omega) (fun g hg => by have := hown g hg; simp; omega))
  have R4 := Lib.hid (U4.out.keep R3.out (by simp; omega))
  have Q4 := Lib.hid b4
  have V4 := Lib.hid (V3.out.then U4.out (fun x hx hlt => by simp at hx; omega))
  clear b4 u4 z4 M3 R3 Q3 V3 U3 n0 n1 n4' M1 R1 U1 I1 Q1
  refine part_same ⟨⟨_, U4.out⟩, rfl⟩ ?_
  refine part_last ?_
  simp only [opsAt, List.map_cons, List.map_nil, List.getElem?_toArray, List.getElem?_cons_zero, List.getElem?_cons_succ, Option.getD_some]
  repeat (go_big_quiet_step (fail))
  refine wpQuiet_nil ?_
  unfold partEnd
  refine segs_end ?_
  go_wp2_with (first
    | go_skip
    | ((with_reducible refine at_st 166 ?_); refine L_store_int 36 (.tmp 166) (.tmp 163) rfl (by kernel_rfl) rb 0 rfl (mcells (putS s rd nv) gb tv) 65 M4.out.cell .u32 (n4 : Int) rfl info_u1 (by rw [mcells_len (putS s rd nv) gb tv (putS_len s rd nv ok.regs) ok.csrs]; decide) ?_))
  intro w8 b8 u8 z8
  rw [mset_pc] at b8
  have M8 : Hid (RfAt rb gb base tv { (putS s rd nv : MSt) with pc := n4 } w8) := Lib.hid (M4.out.set u8 b8 rfl rfl)
  have R8 := Lib.hid (u8.keep R4.out (by simp; omega))
  have Q8 := Lib.hid (u8.keep Q4.out (by simp; omega))
  have V8 := Lib.hid (V4.out.trans u8)
  clear b8 u8 z8
  go_wp2_with (first
    | go_skip
    | ((with_reducible refine at_op 167 ?_); refine L_load 38 (.tmp 10) rfl (by kernel_rfl) _ _ rfl (retL (writeR s.pc rd nv)).toArray (row_allR Q8.out) Tryz.underlying38 rfl 7 info_ret rfl ?_)
    | ((with_reducible refine at_st 6 ?_); refine L_store_row 38 (.tmp 6) (.tmp 167) rfl (by kernel_rfl) (zz.heap.size + 1) 0 rfl (retL ⟨0, 0, 0, false, 0, 0, 0⟩) 38 R8.out (retL (writeR s.pc rd nv)).toArray rfl 7 info_ret rfl (by decide) (retL_one _) ?_))
  intro wA bA uA zA
  rw [spl_all (by rfl)] at bA
  go_wp2_with (fail)
  refine bodyPost_ret (results_cell_row rfl _ _ (zz.heap.size + 1) 38 (retL (writeR s.pc rd nv)).toArray _ _ rfl bA Tryz.underlying38 rfl info_ret) rfl ⟨by rw [EX.out], ?_⟩
  rw [EX.out]
  try rw [applyM_write]
  exact ⟨M8.out.upd uA (by simp; omega) (by simp; omega) (fun g hg => by have := hown g hg; simp; omega), V8.out.then uA (fun x hx hlt => by simp at hx; omega)⟩
end Go.Proofs.YtggjmdgonjhioaaGreat
