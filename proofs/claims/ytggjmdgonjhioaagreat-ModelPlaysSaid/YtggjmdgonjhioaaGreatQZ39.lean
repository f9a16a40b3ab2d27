/- The reference's machine: one instruction. -/
import Derived.Test.YtggjmdgonjhioaaGreatQZ38
import Derived.Test.YtggjmdgonjhioaaGreatQZ08
namespace Go.Proofs.YtggjmdgonjhioaaGreat
open Go.RowKit Go.Dio
set_option linter.unusedSimpArgs false
set_option linter.unusedVariables false

theorem trapP_st (pc : Nat) (cs : List Nat) (c v : Nat) : (trapP pc cs c v).r.st = false := rfl
theorem writeR_st (pc rd n : Nat) : (writeR pc rd n).st = false := by unfold writeR; split <;> rfl
theorem jumpP_st (pc : Nat) (cs : List Nat) (i : InstV) (t : Nat) : (jumpP pc cs i t).r.st = false := by unfold jumpP; split; rfl; exact writeR_st _ _ _
theorem jumpX_st (pc : Nat) (cs : List Nat) (i : InstV) (a b : Nat) : (jumpX pc cs i a b).r.st = false := by
  unfold jumpX; split; exact jumpP_st _ _ _ _; split; exact jumpP_st _ _ _ _; split; exact jumpP_st _ _ _ _; rfl
theorem csrP_st (pc w a : Nat) (cs : List Nat) (i : InstV) : (csrP pc w a cs i).r.st = false := by
  unfold csrP; split; rfl; exact writeR_st _ _ _
theorem doI_jump (pc w a b : Nat) (cs : List Nat) (v : Nat) (i : InstV) (h : 3 ≤ i.op ∧ i.op ≤ 10) : doI pc w a b cs v i = jumpX pc cs i a b := by
  unfold doI jumpX
  rw [if_neg (by omega), if_neg (by omega), if_neg (by omega), if_neg (by omega), if_neg (by omega)]
  by_cases h3 : i.op = 3
  · rw [if_pos h3, if_pos h3]
  rw [if_neg h3, if_neg h3]
  by_cases h4 : i.op = 4
  · rw [if_pos h4, if_pos h4]
  rw [if_neg h4, if_neg h4]
  by_cases ht : takenP i.op a b = true
  · rw [if_pos ht, if_pos ht]
  rw [if_neg ht, if_neg ht, if_neg (by omega)]
  simp only [if_neg (show ¬ i.op = 1 by omega), if_neg (show ¬ i.op = 2 by omega), if_neg (show ¬ (19 ≤ i.op ∧ i.op ≤ 27) by omega), if_neg (show ¬ (28 ≤ i.op ∧ i.op ≤ 45) by omega)]
  rfl
theorem doI_move (pc w a b : Nat) (cs : List Nat) (v : Nat) (i : InstV) (h : 11 ≤ i.op ∧ i.op ≤ 18) : doI pc w a b cs v i = moveX pc b cs i (u32 ((a : Int) + i.imm)) v := by
  unfold doI
  rw [if_neg (by omega), if_neg (by omega), if_neg (by omega), if_neg (by omega), if_neg (by omega), if_neg (by omega), if_neg (by omega), if_neg (by rw [takenP_no i.op a b (by omega)]; decide), if_pos h, moveP_X]
theorem doI_csr (pc w a b : Nat) (cs : List Nat) (v : Nat) (i : InstV) (h : 50 ≤ i.op) : doI pc w a b cs v i = csrP pc w a cs i := by
  unfold doI
  rw [if_neg (by omega), if_neg (by omega), if_neg (by omega), if_neg (by omega), if_pos h]
def plainR (pc a b : Nat) (i : InstV) : RetV := if i.op = 1 then writeR pc i.rd (u32 i.imm) else if i.op = 2 then writeR pc i.rd (u32 ((pc : Int) + i.imm))
      else if 19 ≤ i.op ∧ i.op ≤ 27 then writeR pc i.rd (aluP i.op a (u32 i.imm))
      else if 28 ≤ i.op ∧ i.op ≤ 45 then writeR pc i.rd (aluP i.op a b) else ⟨pc, 0, 0, false, 0, 0, 0⟩
theorem doI_plain (pc w a b : Nat) (cs : List Nat) (v : Nat) (i : InstV) (h : i.op = 1 ∨ i.op = 2 ∨ (19 ≤ i.op ∧ i.op ≤ 46)) : doI pc w a b cs v i = ⟨plainR pc a b i, u32 ((pc : Int) + 4), cs⟩ := by
  unfold doI
  rw [if_neg (by omega), if_neg (by omega), if_neg (by omega), if_neg (by omega), if_neg (by omega), if_neg (by omega), if_neg (by omega), if_neg (by rw [takenP_no i.op a b (by omega)]; decide), if_neg (by omega)]
  rfl
theorem raccess_calls (rb gb base : Nat) (tv : Value) (s : MSt) (zz : World) (M : RfAt rb gb base tv s zz) (ok : MOk s) (hbz : base ≤ zz.heap.size) (htr : s.trace.length ≤ 4000) (i : InstV) (addr n : Nat) (ha : addr < 2 ^ 32) (hn : n < 2 ^ 32) (hd : i.rd < 32) (ho : 11 ≤ i.op ∧ i.op ≤ 18) :
    Calls Tryz.prog 61 #[.pointer (some ⟨rb, 0, none⟩), .agg i.arr, .int .u32 (addr : Int), .int .u32 (n : Int)] zz fun e z' => RfF rb gb base tv (finS s (moveX s.pc n s.csrs i addr (nth s.mem (addr / 4)))) (moveX s.pc n s.csrs i addr (nth s.mem (addr / 4))).r zz e z' := by
  by_cases hacc : (accessP i.op addr).2 = true
  · refine (raccess_bad rb gb base tv s zz M ok.regs ok.csrs ok.pc i addr n (nth s.mem (addr / 4)) ha hd ho hacc).mono ?_
    intro e z' h
    exact h.fin (by unfold moveX; rw [if_pos hacc]; rfl)
  · have hf : (accessP i.op addr).2 = false := by simpa using hacc
    by_cases h15 : i.op ≤ 15
    · refine (raccess_load rb gb base tv s zz M ok.regs ok.csrs ok.mem ok.mlt ok.pc i addr n ha hd ⟨ho.1, h15⟩ hf).mono ?_
      intro e z' h
      exact h.fin (by unfold moveX; rw [if_neg hacc, if_pos h15]; exact writeR_st _ _ _)
    · exact raccess_store rb gb base tv s zz M ok.regs ok.csrs ok.mem ok.mlt ok.pc hbz htr i addr n (nth s.mem (addr / 4)) ha hn hd ⟨by omega, ho.2⟩ hf
set_option maxRecDepth 20000 in
set_option maxHeartbeats 8000000 in
theorem rdo_jump (rb gb base : Nat) (tv : Value) (s : MSt) (zz : World) (M : RfAt rb gb base tv s zz) (iv : MInv s) (w : Nat) (hw : w < 2 ^ 32) (D : InstV) (hD : D = decodeP w) (h0 : 3 ≤ D.op ∧ D.op ≤ 10) :
    Calls Tryz.prog 33 #[.pointer (some ⟨rb, 0, none⟩), .agg D.arr, .int .u32 (w : Int)] zz fun e z' => RfR rb gb base tv (applyM s (jumpX s.pc s.csrs D (nth s.regs D.r1) (nth s.regs D.r2))) (jumpX s.pc s.csrs D (nth s.regs D.r1) (nth s.regs D.r2)).r zz e z' := by
  have wf := decodeP_wf w
  have us := dec_use w
  rw [← hD] at wf us
  obtain ⟨op, rd, r1, r2, imm⟩ := D
  obtain ⟨ho, hd, h1, h2, him⟩ := wf
  dsimp only at ho hd h1 h2 him h0 ⊢
  have hcs := us.u3
  dsimp only at hcs
  clear us hD
  have hzr : r1 = 0 → nth s.regs r1 = 0 := fun h => by rw [h]; exact iv.z
  have ok := iv.ok
  have hal : nth s.regs r1 < 2 ^ 32 := nthB2 ok.rlt (by decide) _
  have hbl : nth s.regs r2 < 2 ^ 32 := nthB2 ok.rlt (by decide) _
  obtain ⟨av, hav⟩ : ∃ av, av = nth s.regs r1 := ⟨_, rfl⟩
  obtain ⟨bv, hbv⟩ : ∃ bv, bv = nth s.regs r2 := ⟨_, rfl⟩
  rw [← hav] at hal hzr
  rw [← hbv] at hbl
  try rw [← hav]
  try rw [← hbv]
  have HA := Lib.hid hav.symm
  have HB := Lib.hid hbv.symm
  clear hav hbv
  show Calls _ _ #[_, .agg #[.int .i64 (op : Int), .int .i64 (rd : Int), .int .i64 (r1 : Int), .int .i64 (r2 : Int), .int .i32 imm], _] _ _
  have hlt := lt_of_block M.cell
  have hgl := lt_of_block M.mem
  have hown : ∀ g, tv.ownBlock = some g → g < zz.heap.size := fun g hg => (World.ownsRow.lt M.own g hg).2
  have R0 := Lib.hid (hl2 zz (.cells (InstV.arr ⟨op, rd, r1, r2, imm⟩) 50) (.cells (retL ⟨0, 0, 0, false, 0, 0, 0⟩).toArray 38))
  have I0 := Lib.hid (heap_old (hl1 zz (.cells (InstV.arr ⟨op, rd, r1, r2, imm⟩) 50)) (.cells (retL ⟨0, 0, 0, false, 0, 0, 0⟩).toArray 38))
  have U0 := Lib.hid (((Upd.refl [] zz).alloc (.cells (InstV.arr ⟨op, rd, r1, r2, imm⟩) 50)).alloc (.cells (retL ⟨0, 0, 0, false, 0, 0, 0⟩).toArray 38))
  have M0 := Lib.hid (M.upd0 U0.out)
  clear M
  have v1 := wrap_u32 imm
  have v2 := addr_mod s.pc imm
  have v3 := addr_wrap s.pc imm
  have v4 := addr_mod av imm
  have v5 := addr_wrap av imm
  have v6 := wrap_u32 ((s.pc : Int) + 4)
  have v7 := mod_u32 ((s.pc : Int) + 4)
  have F := Lib.hid (fun z => fmt_calls op z ho)
  have b1 : decide ((r1 : Int) < 32) = true := decide_eq_true (by omega)
  have b2 : decide ((r2 : Int) < 32) = true := decide_eq_true (by omega)
  obtain ⟨X, hX⟩ : ∃ X, X = jumpX s.pc s.csrs ⟨op, rd, r1, r2, imm⟩ av bv := ⟨_, rfl⟩
  rw [← hX]
  have EX : Hid (True ∧ X = X) := Lib.hid ⟨trivial, rfl⟩
  have HX := Lib.hid hX.symm
  clear hX
  have hcond : (fmtP op = 66 ∨ fmtP op = 74 ∨ op = 4) := by
    rcases (by omega : op = 3 ∨ op = 4 ∨ (5 ≤ op ∧ op ≤ 10)) with h | h | h
    · rw [h]; exact .inr (.inl rfl)
    · exact .inr (.inr h)
    · exact .inl (by unfold fmtP; rw [if_neg (by omega), if_neg (by omega), if_neg (by omega), if_pos (by omega)])
  have e66 : (fmtP op = 66 ∧ ((fmtP op : Int) == 66) = true) ∨ (fmtP op ≠ 66 ∧ ((fmtP op : Int) == 66) = false) := by
    by_cases h : fmtP op = 66
    · exact .inl ⟨h, (cast_eq_b h).1⟩
    · exact .inr ⟨h, (cast_ne_b h).1⟩
  have e74 : (fmtP op = 74 ∧ ((fmtP op : Int) == 74) = true) ∨ (fmtP op ≠ 74 ∧ ((fmtP op : Int) == 74) = false) := by
    by_cases h : fmtP op = 74
    · exact .inl ⟨h, (cast_eq_b h).1⟩
    · exact .inr ⟨h, (cast_ne_b h).1⟩
  have J := Lib.hid (fun z (m : RfAt rb gb base tv s z) => rjump_calls rb gb base tv s z m ok.regs ok.csrs ok.pc ⟨op, rd, r1, r2, imm⟩ av bv hal hbl hd h0)
  rw [HX.out] at J
  generalize fmtP op = f at *
  go_enter Tryz.func33, Tryz.ntmps33
  go_upto_region 1 with (fail)
  generalize hW : World.alloc (World.alloc zz _) _ = W
  have hW2 : (zz.alloc (.cells (InstV.arr ⟨op, rd, r1, r2, imm⟩) 50)).alloc (.cells (retL ⟨0, 0, 0, false, 0, 0, 0⟩).toArray 38) = W := hW
  rw [hW2] at R0 U0 M0 I0
  clear hW hW2
  have hWz : zz.heap.size + 1 < W.heap.size := lt_of_block R0.out
  have c0 : W.cell? ⟨rb, 0, none⟩ = some (.int .u32 (s.pc : Int)) := by rw [M0.out.cAt 0]; rfl
  have n2 : ∀ x : Near [] W, x.1.cell? ⟨zz.heap.size, 2, none⟩ = some (.int .i64 (r1 : Int)) := fun x => by rw [cells_of (x.2.keep I0.out (by simp))]; rfl
  have n3 : ∀ x : Near [] W, x.1.cell? ⟨zz.heap.size, 3, none⟩ = some (.int .i64 (r2 : Int)) := fun x => by rw [cells_of (x.2.keep I0.out (by simp))]; rfl
  have nr1 : ∀ x : Near [] W, x.1.cell? ⟨rb, 1 + r1, none⟩ = some (.int .u32 (av : Int)) := fun x => by rw [(M0.out.upd0 x.2).cAt, mc_reg s gb tv r1 ok.regs h1, HA.out]
  have nr2 : ∀ x : Near [] W, x.1.cell? ⟨rb, 1 + r2, none⟩ = some (.int .u32 (bv : Int)) := fun x => by rw [(M0.out.upd0 x.2).cAt, mc_reg s gb tv r2 ok.regs h2, HB.out]
  go_wp2_with (fail)
  refine wp_region_plan (fun z => ∃ x : Near [] W, z = x.1) [] [0, 1, 2, 3, 4, 5, 6, 7, 8, 9, 10, 11, 12, 13, 14, 15, 16, 17] (by kernel_rfl) (by kernel_rfl) (by kernel_rfl) (by kernel_rfl) (fun _ d _ _ _ h => by cases d <;> exact h) ⟨⟨(W).drew, (Upd.refl _ _).drew⟩, rfl⟩ ?_
  refine plan_last ?_
  simp only [opsAt, List.map_cons, List.map_nil, List.getElem?_toArray, List.getElem?_cons_zero, List.getElem?_cons_succ, Option.getD_some]
  go_simp
  repeat (go_big_quiet_step (fail))
  refine wpQuiet_nil ?_
  unfold planEnd
  go_upto_region 4 with (fail)
  generalize hX1 : World.drew (World.alloc W _) = W1
  have hX12 : (W.alloc (.cells (retL (pcR s.pc)).toArray 38)).drew = W1 := hX1
  have Q1 : Hid ((W.alloc (.cells (retL (pcR s.pc)).toArray 38)).drew.heap[W.heap.size]? = some (.cells (retL (pcR s.pc)).toArray 38 (0, 0))) := Lib.hid (hl1 W (.cells (retL (pcR s.pc)).toArray 38))
  have U1 := Lib.hid ((U0.out.alloc (.cells (retL (pcR s.pc)).toArray 38)).drew)
  have uq := ((Upd.refl [] W).alloc (.cells (retL (pcR s.pc)).toArray 38)).drew
  rw [hX12] at Q1 U1 uq
  have M1 := Lib.hid (M0.out.upd0 uq)
  have R1 := Lib.hid (uq.keep R0.out (by simp))
  have I1 := Lib.hid (uq.keep I0.out (by simp))
  clear hX1 hX12 M0 R0 I0 U0 c0 n2 n3 nr1 nr2 uq
  generalize W.heap.size = tq at *
  have i0 : W1.cell? ⟨zz.heap.size, 0, none⟩ = some (.int .i64 (op : Int)) := by rw [cells_of I1.out]; rfl
  have i1 : W1.cell? ⟨zz.heap.size, 1, none⟩ = some (.int .i64 (rd : Int)) := by rw [cells_of I1.out]; rfl
  have i4 : W1.cell? ⟨zz.heap.size, 4, none⟩ = some (.int .i32 imm) := by rw [cells_of I1.out]; rfl
  go_wp2_with (fail)
  refine (F.out _).mono ?_
  rintro e zf ⟨rfl, hzf⟩
  subst hzf
  rcases hcond with h | h | h
  · have d66 : ((f : Int) == 66) = true := by rcases e66 with h2 | h2; exact h2.2; exact absurd h h2.1
    clear e66 e74 h
    go_wp2_with (first
      | go_skip
      | ((with_reducible refine at_op 51 ?_); refine L_load 50 (.tmp 4) rfl (by kernel_rfl) _ _ rfl _ (row_allR I1.out) Tryz.underlying50 rfl 5 info_inst rfl ?_))
    refine (J.out _ M1.out).mono ?_
    rintro e w3 ⟨rfl, m3, u3⟩
    have M3 := Lib.hid m3
    have R3 := Lib.hid (u3.keep R1.out (by simp; omega))
    have V3 := Lib.hid ((U1.out.mono (T := [rb]) (by simp)).trans u3)
    clear m3 u3 M1 R1 U1 I1 Q1
    go_wp2_with (first
      | go_skip
      | ((with_reducible refine at_st 6 ?_); refine L_store_row 38 (.tmp 6) (.tmp 54) rfl (by kernel_rfl) (zz.heap.size + 1) 0 rfl (retL ⟨0, 0, 0, false, 0, 0, 0⟩) 38 R3.out (retL X.r).toArray rfl 7 info_ret rfl (by decide) (retL_one _) ?_))
    intro wA bA uA zA
    rw [spl_all (by rfl)] at bA
    go_wp2_with (fail)
    refine bodyPost_ret (results_cell_row rfl _ _ (zz.heap.size + 1) 38 (retL X.r).toArray _ _ rfl bA Tryz.underlying38 rfl info_ret) rfl ⟨by first | rfl | rw [EX.out] | (rw [EX.out]; rfl), ?_⟩
    try rw [EX.out]
    exact ⟨M3.out.upd uA (by simp; omega) (by simp; omega) (fun g hg => by have := hown g hg; simp; omega), V3.out.then uA (fun x hx hlt => by simp at hx; omega)⟩
  · have d66 : ((f : Int) == 66) = false := by rw [h]; rfl
    have d74 : ((f : Int) == 74) = true := by rcases e74 with h2 | h2; exact h2.2; exact absurd h h2.1
    clear e66 e74 h
    go_wp2_with (first
      | go_skip
      | ((with_reducible refine at_op 51 ?_); refine L_load 50 (.tmp 4) rfl (by kernel_rfl) _ _ rfl _ (row_allR I1.out) Tryz.underlying50 rfl 5 info_inst rfl ?_))
    refine (J.out _ M1.out).mono ?_
    rintro e w3 ⟨rfl, m3, u3⟩
    have M3 := Lib.hid m3
    have R3 := Lib.hid (u3.keep R1.out (by simp; omega))
    have V3 := Lib.hid ((U1.out.mono (T := [rb]) (by simp)).trans u3)
    clear m3 u3 M1 R1 U1 I1 Q1
    go_wp2_with (first
      | go_skip
      | ((with_reducible refine at_st 6 ?_); refine L_store_row 38 (.tmp 6) (.tmp 54) rfl (by kernel_rfl) (zz.heap.size + 1) 0 rfl (retL ⟨0, 0, 0, false, 0, 0, 0⟩) 38 R3.out (retL X.r).toArray rfl 7 info_ret rfl (by decide) (retL_one _) ?_))
    intro wA bA uA zA
    rw [spl_all (by rfl)] at bA
    go_wp2_with (fail)
    refine bodyPost_ret (results_cell_row rfl _ _ (zz.heap.size + 1) 38 (retL X.r).toArray _ _ rfl bA Tryz.underlying38 rfl info_ret) rfl ⟨by first | rfl | rw [EX.out] | (rw [EX.out]; rfl), ?_⟩
    try rw [EX.out]
    exact ⟨M3.out.upd uA (by simp; omega) (by simp; omega) (fun g hg => by have := hown g hg; simp; omega), V3.out.then uA (fun x hx hlt => by simp at hx; omega)⟩
  · subst h
    rcases e66 with ⟨_, d66⟩ | ⟨_, d66⟩
    · clear e74
      go_wp2_with (first
        | go_skip
        | ((with_reducible refine at_op 51 ?_); refine L_load 50 (.tmp 4) rfl (by kernel_rfl) _ _ rfl _ (row_allR I1.out) Tryz.underlying50 rfl 5 info_inst rfl ?_))
      refine (J.out _ M1.out).mono ?_
      rintro e w3 ⟨rfl, m3, u3⟩
      have M3 := Lib.hid m3
      have R3 := Lib.hid (u3.keep R1.out (by simp; omega))
      have V3 := Lib.hid ((U1.out.mono (T := [rb]) (by simp)).trans u3)
      clear m3 u3 M1 R1 U1 I1 Q1
      go_wp2_with (first
        | go_skip
        | ((with_reducible refine at_st 6 ?_); refine L_store_row 38 (.tmp 6) (.tmp 54) rfl (by kernel_rfl) (zz.heap.size + 1) 0 rfl (retL ⟨0, 0, 0, false, 0, 0, 0⟩) 38 R3.out (retL X.r).toArray rfl 7 info_ret rfl (by decide) (retL_one _) ?_))
      intro wA bA uA zA
      rw [spl_all (by rfl)] at bA
      go_wp2_with (fail)
      refine bodyPost_ret (results_cell_row rfl _ _ (zz.heap.size + 1) 38 (retL X.r).toArray _ _ rfl bA Tryz.underlying38 rfl info_ret) rfl ⟨by first | rfl | rw [EX.out] | (rw [EX.out]; rfl), ?_⟩
      try rw [EX.out]
      exact ⟨M3.out.upd uA (by simp; omega) (by simp; omega) (fun g hg => by have := hown g hg; simp; omega), V3.out.then uA (fun x hx hlt => by simp at hx; omega)⟩
    · rcases e74 with ⟨_, d74⟩ | ⟨_, d74⟩
      ·
        go_wp2_with (first
          | go_skip
          | ((with_reducible refine at_op 51 ?_); refine L_load 50 (.tmp 4) rfl (by kernel_rfl) _ _ rfl _ (row_allR I1.out) Tryz.underlying50 rfl 5 info_inst rfl ?_))
        refine (J.out _ M1.out).mono ?_
        rintro e w3 ⟨rfl, m3, u3⟩
        have M3 := Lib.hid m3
        have R3 := Lib.hid (u3.keep R1.out (by simp; omega))
        have V3 := Lib.hid ((U1.out.mono (T := [rb]) (by simp)).trans u3)
        clear m3 u3 M1 R1 U1 I1 Q1
        go_wp2_with (first
          | go_skip
          | ((with_reducible refine at_st 6 ?_); refine L_store_row 38 (.tmp 6) (.tmp 54) rfl (by kernel_rfl) (zz.heap.size + 1) 0 rfl (retL ⟨0, 0, 0, false, 0, 0, 0⟩) 38 R3.out (retL X.r).toArray rfl 7 info_ret rfl (by decide) (retL_one _) ?_))
        intro wA bA uA zA
        rw [spl_all (by rfl)] at bA
        go_wp2_with (fail)
        refine bodyPost_ret (results_cell_row rfl _ _ (zz.heap.size + 1) 38 (retL X.r).toArray _ _ rfl bA Tryz.underlying38 rfl info_ret) rfl ⟨by first | rfl | rw [EX.out] | (rw [EX.out]; rfl), ?_⟩
        try rw [EX.out]
        exact ⟨M3.out.upd uA (by simp; omega) (by simp; omega) (fun g hg => by have := hown g hg; simp; omega), V3.out.then uA (fun x hx hlt => by simp at hx; omega)⟩
      ·
        go_wp2_with (first
          | go_skip
          | ((with_reducible refine at_op 51 ?_); refine L_load 50 (.tmp 4) rfl (by kernel_rfl) _ _ rfl _ (row_allR I1.out) Tryz.underlying50 rfl 5 info_inst rfl ?_))
        refine (J.out _ M1.out).mono ?_
        rintro e w3 ⟨rfl, m3, u3⟩
        have M3 := Lib.hid m3
        have R3 := Lib.hid (u3.keep R1.out (by simp; omega))
        have V3 := Lib.hid ((U1.out.mono (T := [rb]) (by simp)).trans u3)
        clear m3 u3 M1 R1 U1 I1 Q1
        go_wp2_with (first
          | go_skip
          | ((with_reducible refine at_st 6 ?_); refine L_store_row 38 (.tmp 6) (.tmp 54) rfl (by kernel_rfl) (zz.heap.size + 1) 0 rfl (retL ⟨0, 0, 0, false, 0, 0, 0⟩) 38 R3.out (retL X.r).toArray rfl 7 info_ret rfl (by decide) (retL_one _) ?_))
        intro wA bA uA zA
        rw [spl_all (by rfl)] at bA
        go_wp2_with (fail)
        refine bodyPost_ret (results_cell_row rfl _ _ (zz.heap.size + 1) 38 (retL X.r).toArray _ _ rfl bA Tryz.underlying38 rfl info_ret) rfl ⟨by first | rfl | rw [EX.out] | (rw [EX.out]; rfl), ?_⟩
        try rw [EX.out]
        exact ⟨M3.out.upd uA (by simp; omega) (by simp; omega) (fun g hg => by have := hown g hg; simp; omega), V3.out.then uA (fun x hx hlt => by simp at hx; omega)⟩
end Go.Proofs.YtggjmdgonjhioaaGreat
