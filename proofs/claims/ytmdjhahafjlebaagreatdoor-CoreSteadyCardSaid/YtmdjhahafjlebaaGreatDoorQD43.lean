/- The reference's machine: registers, jumps. -/
import Derived.Test.YtmdjhahafjlebaaGreatDoorQD42
import Derived.Test.YtmdjhahafjlebaaGreatDoorQD10
namespace Go.Proofs.YtmdjhahafjlebaaGreatDoor
open Go.RowKit Go.Dio
set_option linter.unusedSimpArgs false
set_option linter.unusedVariables false

theorem row_allR {w : World} {g : Nat} {a : Array Value} {t : TypeId} (h : w.heap[g]? = some (.cells a t (0, 0))) : w.rangeAt g 0 a.toList := fun j v hv => by
  rw [cells_of h, Nat.zero_add]; simpa using hv
def putS (s : MSt) (rd n : Nat) : MSt := { s with regs := if rd = 0 then s.regs else s.regs.set rd n }
set_option maxRecDepth 20000 in
set_option maxHeartbeats 4000000 in
theorem rput_calls (rb gb base : Nat) (tv : Value) (s : MSt) (zz : World) (M : RfAt rb gb base tv s zz) (hr : s.regs.length = 32) (hc : s.csrs.length = 5) (pc rd n : Nat) (hd : rd < 32) :
    Calls Tryz.prog 99 #[.pointer (some ⟨rb, 0, none⟩), .agg (retL (pcR pc)).toArray, .int .i64 (rd : Int), .int .u32 (n : Int)] zz fun e z' => RfR rb gb base tv (putS s rd n) (writeR pc rd n) zz e z' := by
  have hlt := lt_of_block M.cell
  have hgl := lt_of_block M.mem
  have hown : ∀ g, tv.ownBlock = some g → g < zz.heap.size := fun g hg => (World.ownsRow.lt M.own g hg).2
  have B0 := Lib.hid (heap_old (hl1 zz (.cells (retL (pcR pc)).toArray 38)) (.cells (retL ⟨0, 0, 0, false, 0, 0, 0⟩).toArray 38))
  have R0 := Lib.hid (hl2 zz (.cells (retL (pcR pc)).toArray 38) (.cells (retL ⟨0, 0, 0, false, 0, 0, 0⟩).toArray 38))
  have U0 := Lib.hid (((Upd.refl [] zz).alloc (.cells (retL (pcR pc)).toArray 38)).alloc (.cells (retL ⟨0, 0, 0, false, 0, 0, 0⟩).toArray 38))
  have M0 := Lib.hid (M.upd0 U0.out)
  clear M
  by_cases h0 : rd = 0
  · subst h0
    go_enter Tryz.func99, Tryz.ntmps99
    go_wp2_with (first
      | go_skip
      | ((with_reducible refine at_op 22 ?_); refine L_load 38 (.tmp 5) rfl (by kernel_rfl) _ _ rfl (retL (pcR pc)).toArray (row_allR B0.out) Tryz.underlying38 rfl 7 info_ret rfl ?_)
      | ((with_reducible refine at_st 8 ?_); refine L_store_row 38 (.tmp 8) (.tmp 22) rfl (by kernel_rfl) (zz.heap.size + 1) 0 rfl (retL ⟨0, 0, 0, false, 0, 0, 0⟩) 38 R0.out (retL (pcR pc)).toArray rfl 7 info_ret rfl (by decide) (retL_one _) ?_))
    intro wA bA uA zA
    rw [spl_all (by rfl)] at bA
    go_wp2_with (fail)
    refine bodyPost_ret (results_cell_row rfl _ _ (zz.heap.size + 1) 38 (retL (pcR pc)).toArray _ _ rfl bA Tryz.underlying38 rfl info_ret) rfl ⟨rfl, ?_, ?_⟩
    · exact M0.out.upd uA (by simp; omega) (by simp; omega) (fun g hg => by have := hown g hg; simp; omega)
    · exact (U0.out.mono (T := [rb]) (by simp)).then uA (fun x hx hlt => by simp at hx; omega)
  · have e1 : ((rd : Int) != 0) = true := by simp; exact h0
    have b1 : decide ((rd : Int) < 32) = true := decide_eq_true (by omega)
    have b0 : decide ((0 : Int) ≤ (rd : Int)) = true := decide_eq_true (by omega)
    have EW : Hid (writeR pc rd n = ⟨(pc : Int), (n : Int), (rd : Int), false, 0, 0, 0⟩) := Lib.hid (by unfold writeR; rw [if_neg h0])
    have ES : Hid (putS s rd n = { s with regs := s.regs.set rd n }) := Lib.hid (by unfold putS; rw [if_neg h0])
    clear h0
    go_enter Tryz.func99, Tryz.ntmps99
    go_wp2_with (first
      | go_skip
      | ((with_reducible refine at_st 17 ?_); refine L_store_int 36 (.tmp 17) (.tmp 13) rfl (by kernel_rfl) rb (1 + rd) rfl (mcells s gb tv) 55 M0.out.cell .u32 (n : Int) rfl info_u1 (by rw [mcells_len s gb tv hr hc]; omega) ?_))
    intro w2 b2 u2 z2
    rw [mset_reg s gb tv rd n hr hd] at b2
    have B2 := Lib.hid (u2.keep B0.out (by simp; omega))
    have R2 := Lib.hid (u2.keep R0.out (by simp; omega))
    have M2 : Hid (RfAt rb gb base tv { s with regs := s.regs.set rd n } w2) := Lib.hid (M0.out.set u2 b2 rfl rfl)
    have V2 := Lib.hid ((U0.out.mono (T := [rb]) (by simp)).trans u2)
    clear b2 u2 z2 B0 R0 M0 U0
    go_wp2_with (first
      | go_skip
      | ((with_reducible refine at_st 20 ?_); refine L_store_int 3 (.tmp 20) (.tmp 18) rfl (by kernel_rfl) zz.heap.size 2 rfl (retL (pcR pc)) 38 B2.out .i64 (rd : Int) rfl info_int1 (show 2 < 7 by decide) ?_))
    intro w3 b3 u3 z3
    have B3 : Hid (w3.heap[zz.heap.size]? = some (.cells (retL ⟨(pc : Int), 0, (rd : Int), false, 0, 0, 0⟩).toArray 38 (0, 0))) := Lib.hid b3
    have R3 := Lib.hid (u3.keep R2.out (by simp))
    have U3 := Lib.hid u3
    clear b3 u3 z3 B2 R2
    go_wp2_with (first
      | go_skip
      | ((with_reducible refine at_st 21 ?_); refine L_store_int 36 (.tmp 21) (.tmp 19) rfl (by kernel_rfl) zz.heap.size 1 rfl (retL ⟨(pc : Int), 0, (rd : Int), false, 0, 0, 0⟩) 38 B3.out .u32 (n : Int) rfl info_u1 (show 1 < 7 by decide) ?_))
    intro w4 b4 u4 z4
    have B4 : Hid (w4.heap[zz.heap.size]? = some (.cells (retL ⟨(pc : Int), (n : Int), (rd : Int), false, 0, 0, 0⟩).toArray 38 (0, 0))) := Lib.hid b4
    have R4 := Lib.hid (u4.keep R3.out (by simp))
    have U4 := Lib.hid (U3.out.trans u4)
    have M4 := Lib.hid (M2.out.upd U4.out (by simp; omega) (by simp; omega) (fun g hg => by have := hown g hg; simp; omega))
    have V4 := Lib.hid (V2.out.then U4.out (fun x hx hlt => by simp at hx; omega))
    clear b4 u4 z4 B3 R3 U3 U4 M2 V2
    go_wp2_with (first
      | go_skip
      | ((with_reducible refine at_op 22 ?_); refine L_load 38 (.tmp 5) rfl (by kernel_rfl) _ _ rfl (retL ⟨(pc : Int), (n : Int), (rd : Int), false, 0, 0, 0⟩).toArray (row_allR B4.out) Tryz.underlying38 rfl 7 info_ret rfl ?_)
      | ((with_reducible refine at_st 8 ?_); refine L_store_row 38 (.tmp 8) (.tmp 22) rfl (by kernel_rfl) (zz.heap.size + 1) 0 rfl (retL ⟨0, 0, 0, false, 0, 0, 0⟩) 38 R4.out (retL ⟨(pc : Int), (n : Int), (rd : Int), false, 0, 0, 0⟩).toArray rfl 7 info_ret rfl (by decide) (retL_one _) ?_))
    intro wA bA uA zA
    rw [spl_all (by rfl)] at bA
    go_wp2_with (fail)
    refine bodyPost_ret (results_cell_row rfl _ _ (zz.heap.size + 1) 38 (retL ⟨(pc : Int), (n : Int), (rd : Int), false, 0, 0, 0⟩).toArray _ _ rfl bA Tryz.underlying38 rfl info_ret) rfl ⟨by rw [EW.out], ?_, ?_⟩
    · rw [ES.out]
      exact M4.out.upd uA (by simp; omega) (by simp; omega) (fun g hg => by have := hown g hg; simp; omega)
    · exact V4.out.then uA (fun x hx hlt => by simp at hx; omega)

theorem applyM_write (s : MSt) (pc rd n nx : Nat) (cs : List Nat) : applyM s ⟨writeR pc rd n, nx, cs⟩ = putS { s with pc := nx, csrs := cs } rd n := by
  unfold applyM putS writeR
  by_cases h : rd = 0
  · subst h; rfl
  · rw [if_neg h, if_neg (show ¬ ((rd : Int) = 0) by omega), if_neg h]; rfl
def jumpX (pc : Nat) (cs : List Nat) (i : InstV) (a b : Nat) : MadeV :=
  if i.op = 3 then jumpP pc cs i (u32 ((pc : Int) + i.imm))
  else if i.op = 4 then jumpP pc cs i (u32 ((a : Int) + i.imm) / 2 * 2)
  else if takenP i.op a b = true then jumpP pc cs i (u32 ((pc : Int) + i.imm))
  else ⟨pcR pc, u32 ((pc : Int) + 4), cs⟩
set_option maxRecDepth 20000 in
set_option maxHeartbeats 8000000 in
theorem rjump_calls (rb gb base : Nat) (tv : Value) (s : MSt) (zz : World) (M : RfAt rb gb base tv s zz) (hr : s.regs.length = 32) (hc : s.csrs.length = 5) (hp : s.pc < 2 ^ 32) (i : InstV) (a b : Nat) (ha : a < 2 ^ 32) (hb : b < 2 ^ 32) (hd : i.rd < 32) (ho : 3 ≤ i.op ∧ i.op ≤ 10) :
    Calls Tryz.prog 95 #[.pointer (some ⟨rb, 0, none⟩), .agg i.arr, .int .u32 (a : Int), .int .u32 (b : Int)] zz fun e z' => RfR rb gb base tv (applyM s (jumpX s.pc s.csrs i a b)) (jumpX s.pc s.csrs i a b).r zz e z' := by
  obtain ⟨op, rd, r1, r2, imm⟩ := i
  dsimp only at hd ho
  obtain ⟨X, hX⟩ : ∃ X, X = jumpX s.pc s.csrs ⟨op, rd, r1, r2, imm⟩ a b := ⟨_, rfl⟩
  rw [← hX]
  have HX := Lib.hid hX
  clear hX
  show Calls _ _ #[_, .agg #[.int .i64 (op : Int), .int .i64 (rd : Int), .int .i64 (r1 : Int), .int .i64 (r2 : Int), .int .i32 imm], _, _] _ _
  have hlt := lt_of_block M.cell
  have hgl := lt_of_block M.mem
  have hown : ∀ g, tv.ownBlock = some g → g < zz.heap.size := fun g hg => (World.ownsRow.lt M.own g hg).2
  have R0 := Lib.hid (hl2 zz (.cells (InstV.arr ⟨op, rd, r1, r2, imm⟩) 69) (.cells (retL ⟨0, 0, 0, false, 0, 0, 0⟩).toArray 38))
  have I0 := Lib.hid (heap_old (hl1 zz (.cells (InstV.arr ⟨op, rd, r1, r2, imm⟩) 69)) (.cells (retL ⟨0, 0, 0, false, 0, 0, 0⟩).toArray 38))
  have U0 := Lib.hid (((Upd.refl [] zz).alloc (.cells (InstV.arr ⟨op, rd, r1, r2, imm⟩) 69)).alloc (.cells (retL ⟨0, 0, 0, false, 0, 0, 0⟩).toArray 38))
  have M0 := Lib.hid (M.upd0 U0.out)
  clear M
  have v1 := wrap_u32 imm
  have v2 := addr_mod s.pc imm
  have v3 := addr_wrap s.pc imm
  have v4 := addr_mod a imm
  have v5 := addr_wrap a imm
  have v6 := wrap_u32 ((s.pc : Int) + 4)
  have v7 := mod_u32 ((s.pc : Int) + 4)
  have hta := u32_lt ((a : Int) + imm)
  have htp := u32_lt ((s.pc : Int) + imm)
  have v8 := high1 (u32 ((a : Int) + imm)) hta
  generalize hn4 : u32 ((s.pc : Int) + 4) = n4 at *
  have N4 := Lib.hid hn4
  generalize hui : u32 imm = ui at *
  clear hui hn4
  rcases (by omega : op = 3 ∨ op = 4 ∨ (5 ≤ op ∧ op ≤ 10)) with rfl | rfl | h5
  · have EX : Hid (X = jumpP s.pc s.csrs ⟨3, rd, r1, r2, imm⟩ (u32 ((s.pc : Int) + imm))) := Lib.hid (by rw [HX.out]; rfl)
    clear v4 v5 v8 hta HX
    generalize u32 ((s.pc : Int) + imm) = tg at *
    have htg := htp
    have hm4 : ((tg % 4 : Nat) : Int) = (tg : Int) % 4 := by omega
    have h3 : (tg : Int).tmod 4 = (tg : Int) % 4 := by rw [Int.tmod_eq_emod_of_nonneg (by omega)]
    have F := Lib.hid (fun z => fmt_calls 3 z (by decide))
    go_enter Tryz.func95, Tryz.ntmps95
    go_upto_region 1 with (fail)
    generalize hW : World.alloc (World.alloc zz _) _ = W
    have hW2 : (zz.alloc (.cells (InstV.arr ⟨3, rd, r1, r2, imm⟩) 69)).alloc (.cells (retL ⟨0, 0, 0, false, 0, 0, 0⟩).toArray 38) = W := hW
    rw [hW2] at R0 U0 M0 I0
    clear hW hW2
    have c0 : W.cell? ⟨rb, 0, none⟩ = some (.int .u32 (s.pc : Int)) := by rw [M0.out.cAt 0]; rfl
    have i0 : W.cell? ⟨zz.heap.size, 0, none⟩ = some (.int .i64 (3 : Int)) := by rw [cells_of I0.out]; rfl
    have i1 : W.cell? ⟨zz.heap.size, 1, none⟩ = some (.int .i64 (rd : Int)) := by rw [cells_of I0.out]; rfl
    have i4 : W.cell? ⟨zz.heap.size, 4, none⟩ = some (.int .i32 imm) := by rw [cells_of I0.out]; rfl
    go_wp2_with (fail)
    refine (F.out _).mono ?_
    rintro e z1 ⟨rfl, rfl⟩
    by_cases h4 : tg % 4 = 0
    · have EJ : Hid (X = ⟨writeR s.pc rd n4, tg, s.csrs⟩) := Lib.hid (by rw [EX.out]; unfold jumpP; rw [if_neg (by omega), N4.out])
      have d1 : ((tg : Int) % 4 != 0) = false := by rw [← hm4]; exact (cast_eq_b h4).2
      clear h4 EX
      go_wp2_with (first
        | go_skip
        | ((with_reducible refine at_st 61 ?_); refine L_store_int 36 (.tmp 61) (.tmp 58) rfl (by kernel_rfl) rb 0 rfl (mcells s gb tv) 55 M0.out.cell .u32 (tg : Int) rfl info_u1 (by rw [mcells_len s gb tv hr hc]; decide) ?_))
      intro w2 b2 u2 z2
      rw [mset_pc] at b2
      have M2 : Hid (RfAt rb gb base tv { s with pc := tg } w2) := Lib.hid (M0.out.set u2 b2 rfl rfl)
      have R2 := Lib.hid (u2.keep R0.out (by simp; omega))
      have I2 := Lib.hid (u2.keep I0.out (by simp; omega))
      have V2 := Lib.hid ((U0.out.mono (T := [rb]) (by simp)).trans u2)
      clear b2 u2 z2 M0 R0 I0 U0 i0 i1 i4
      have i1 : w2.cell? ⟨zz.heap.size, 1, none⟩ = some (.int .i64 (rd : Int)) := by rw [cells_of I2.out]; rfl
      go_wp2_with (fail)
      refine (rput_calls rb gb base tv { s with pc := tg } _ M2.out hr hc s.pc rd n4 hd).mono ?_
      rintro e w3 ⟨rfl, m3, u3⟩
      have M3 := Lib.hid m3
      have R3 := Lib.hid (u3.keep R2.out (by simp; omega))
      have V3 := Lib.hid (V2.out.trans u3)
      clear m3 u3 M2 R2 V2 I2 i1
      go_wp2_with (first
        | go_skip
        | ((with_reducible refine at_st 8 ?_); refine L_store_row 38 (.tmp 8) (.tmp 69) rfl (by kernel_rfl) (zz.heap.size + 1) 0 rfl (retL ⟨0, 0, 0, false, 0, 0, 0⟩) 38 R3.out (retL (writeR s.pc rd n4)).toArray rfl 7 info_ret rfl (by decide) (retL_one _) ?_))
      intro wA bA uA zA
      rw [spl_all (by rfl)] at bA
      go_wp2_with (fail)
      refine bodyPost_ret (results_cell_row rfl _ _ (zz.heap.size + 1) 38 (retL (writeR s.pc rd n4)).toArray _ _ rfl bA Tryz.underlying38 rfl info_ret) rfl ⟨by rw [EJ.out], ?_⟩
      rw [EJ.out, applyM_write]
      exact ⟨M3.out.upd uA (by simp; omega) (by simp; omega) (fun g hg => by have := hown g hg; simp; omega), V3.out.then uA (fun x hx hlt => by simp at hx; omega)⟩
    · have EJ : Hid (X = trapP s.pc s.csrs 0 tg) := Lib.hid (by rw [EX.out]; unfold jumpP; rw [if_pos (by omega)])
      have d1 : ((tg : Int) % 4 != 0) = true := by rw [← hm4]; exact (cast_ne_b h4).2
      clear h4 EX
      go_wp2_with (fail)
      refine (rtrap_calls rb gb base tv s _ M0.out hr hc s.pc 0 tg hp (by decide) htg).mono ?_
      rintro e w3 ⟨rfl, m3, u3⟩
      have M3 := Lib.hid m3
      have R3 := Lib.hid (u3.keep R0.out (by simp; omega))
      have V3 := Lib.hid ((U0.out.mono (T := [rb]) (by simp)).trans u3)
      clear m3 u3 M0 R0 U0 I0 i0 i1 i4
      go_wp2_with (first
        | go_skip
        | ((with_reducible refine at_st 8 ?_); refine L_store_row 38 (.tmp 8) (.tmp 56) rfl (by kernel_rfl) (zz.heap.size + 1) 0 rfl (retL ⟨0, 0, 0, false, 0, 0, 0⟩) 38 R3.out (retL (pcR s.pc)).toArray rfl 7 info_ret rfl (by decide) (retL_one _) ?_))
      intro wA bA uA zA
      rw [spl_all (by rfl)] at bA
      go_wp2_with (fail)
      refine bodyPost_ret (results_cell_row rfl _ _ (zz.heap.size + 1) 38 (retL (pcR s.pc)).toArray _ _ rfl bA Tryz.underlying38 rfl info_ret) rfl ⟨by rw [EJ.out]; rfl, ?_⟩
      rw [EJ.out]
      exact ⟨M3.out.upd uA (by simp; omega) (by simp; omega) (fun g hg => by have := hown g hg; simp; omega), V3.out.then uA (fun x hx hlt => by simp at hx; omega)⟩
  · have EX : Hid (X = jumpP s.pc s.csrs ⟨4, rd, r1, r2, imm⟩ (u32 ((a : Int) + imm) / 2 * 2)) := Lib.hid (by rw [HX.out]; rfl)
    have htg : u32 ((a : Int) + imm) / 2 * 2 < 2 ^ 32 := by omega
    clear HX
    generalize u32 ((s.pc : Int) + imm) = tp at *
    generalize u32 ((a : Int) + imm) = ta at *
    generalize ta / 2 * 2 = tg at *
    have hm4 : ((tg % 4 : Nat) : Int) = (tg : Int) % 4 := by omega
    have h3 : (tg : Int).tmod 4 = (tg : Int) % 4 := by rw [Int.tmod_eq_emod_of_nonneg (by omega)]
    have F := Lib.hid (fun z => fmt_calls 4 z (by decide))
    go_enter Tryz.func95, Tryz.ntmps95
    go_upto_region 1 with (fail)
    generalize hW : World.alloc (World.alloc zz _) _ = W
    have hW2 : (zz.alloc (.cells (InstV.arr ⟨4, rd, r1, r2, imm⟩) 69)).alloc (.cells (retL ⟨0, 0, 0, false, 0, 0, 0⟩).toArray 38) = W := hW
    rw [hW2] at R0 U0 M0 I0
    clear hW hW2
    have c0 : W.cell? ⟨rb, 0, none⟩ = some (.int .u32 (s.pc : Int)) := by rw [M0.out.cAt 0]; rfl
    have i0 : W.cell? ⟨zz.heap.size, 0, none⟩ = some (.int .i64 (4 : Int)) := by rw [cells_of I0.out]; rfl
    have i1 : W.cell? ⟨zz.heap.size, 1, none⟩ = some (.int .i64 (rd : Int)) := by rw [cells_of I0.out]; rfl
    have i4 : W.cell? ⟨zz.heap.size, 4, none⟩ = some (.int .i32 imm) := by rw [cells_of I0.out]; rfl
    go_wp2_with (fail)
    refine (F.out _).mono ?_
    rintro e z1 ⟨rfl, rfl⟩
    by_cases h4 : tg % 4 = 0
    · have EJ : Hid (X = ⟨writeR s.pc rd n4, tg, s.csrs⟩) := Lib.hid (by rw [EX.out]; unfold jumpP; rw [if_neg (by omega), N4.out])
      have d1 : ((tg : Int) % 4 != 0) = false := by rw [← hm4]; exact (cast_eq_b h4).2
      clear h4 EX
      go_wp2_with (first
        | go_skip
        | ((with_reducible refine at_st 61 ?_); refine L_store_int 36 (.tmp 61) (.tmp 58) rfl (by kernel_rfl) rb 0 rfl (mcells s gb tv) 55 M0.out.cell .u32 (tg : Int) rfl info_u1 (by rw [mcells_len s gb tv hr hc]; decide) ?_))
      intro w2 b2 u2 z2
      rw [mset_pc] at b2
      have M2 : Hid (RfAt rb gb base tv { s with pc := tg } w2) := Lib.hid (M0.out.set u2 b2 rfl rfl)
      have R2 := Lib.hid (u2.keep R0.out (by simp; omega))
      have I2 := Lib.hid (u2.keep I0.out (by simp; omega))
      have V2 := Lib.hid ((U0.out.mono (T := [rb]) (by simp)).trans u2)
      clear b2 u2 z2 M0 R0 I0 U0 i0 i1 i4
      have i1 : w2.cell? ⟨zz.heap.size, 1, none⟩ = some (.int .i64 (rd : Int)) := by rw [cells_of I2.out]; rfl
      go_wp2_with (fail)
      refine (rput_calls rb gb base tv { s with pc := tg } _ M2.out hr hc s.pc rd n4 hd).mono ?_
      rintro e w3 ⟨rfl, m3, u3⟩
      have M3 := Lib.hid m3
      have R3 := Lib.hid (u3.keep R2.out (by simp; omega))
      have V3 := Lib.hid (V2.out.trans u3)
      clear m3 u3 M2 R2 V2 I2 i1
      go_wp2_with (first
        | go_skip
        | ((with_reducible refine at_st 8 ?_); refine L_store_row 38 (.tmp 8) (.tmp 69) rfl (by kernel_rfl) (zz.heap.size + 1) 0 rfl (retL ⟨0, 0, 0, false, 0, 0, 0⟩) 38 R3.out (retL (writeR s.pc rd n4)).toArray rfl 7 info_ret rfl (by decide) (retL_one _) ?_))
      intro wA bA uA zA
      rw [spl_all (by rfl)] at bA
      go_wp2_with (fail)
      refine bodyPost_ret (results_cell_row rfl _ _ (zz.heap.size + 1) 38 (retL (writeR s.pc rd n4)).toArray _ _ rfl bA Tryz.underlying38 rfl info_ret) rfl ⟨by rw [EJ.out], ?_⟩
      rw [EJ.out, applyM_write]
      exact ⟨M3.out.upd uA (by simp; omega) (by simp; omega) (fun g hg => by have := hown g hg; simp; omega), V3.out.then uA (fun x hx hlt => by simp at hx; omega)⟩
    · have EJ : Hid (X = trapP s.pc s.csrs 0 tg) := Lib.hid (by rw [EX.out]; unfold jumpP; rw [if_pos (by omega)])
      have d1 : ((tg : Int) % 4 != 0) = true := by rw [← hm4]; exact (cast_ne_b h4).2
      clear h4 EX
      go_wp2_with (fail)
      refine (rtrap_calls rb gb base tv s _ M0.out hr hc s.pc 0 tg hp (by decide) htg).mono ?_
      rintro e w3 ⟨rfl, m3, u3⟩
      have M3 := Lib.hid m3
      have R3 := Lib.hid (u3.keep R0.out (by simp; omega))
      have V3 := Lib.hid ((U0.out.mono (T := [rb]) (by simp)).trans u3)
      clear m3 u3 M0 R0 U0 I0 i0 i1 i4
      go_wp2_with (first
        | go_skip
        | ((with_reducible refine at_st 8 ?_); refine L_store_row 38 (.tmp 8) (.tmp 56) rfl (by kernel_rfl) (zz.heap.size + 1) 0 rfl (retL ⟨0, 0, 0, false, 0, 0, 0⟩) 38 R3.out (retL (pcR s.pc)).toArray rfl 7 info_ret rfl (by decide) (retL_one _) ?_))
      intro wA bA uA zA
      rw [spl_all (by rfl)] at bA
      go_wp2_with (fail)
      refine bodyPost_ret (results_cell_row rfl _ _ (zz.heap.size + 1) 38 (retL (pcR s.pc)).toArray _ _ rfl bA Tryz.underlying38 rfl info_ret) rfl ⟨by rw [EJ.out]; rfl, ?_⟩
      rw [EJ.out]
      exact ⟨M3.out.upd uA (by simp; omega) (by simp; omega) (fun g hg => by have := hown g hg; simp; omega), V3.out.then uA (fun x hx hlt => by simp at hx; omega)⟩
  · have hfm : fmtP op = 66 := by unfold fmtP; rw [if_neg (by omega), if_neg (by omega), if_neg (by omega), if_pos (by omega)]
    have F := Lib.hid (fun z => fmt_calls op z (by omega))
    rw [hfm] at F
    have e4 : ((op : Int) == 4) = false := by rw [beq_eq_false_iff_ne]; omega
    have T := Lib.hid (fun z => r7taken_calls op a b z (by omega) ha hb)
    cases ht : takenP op a b
    · have EX : Hid (X = ⟨pcR s.pc, n4, s.csrs⟩) := Lib.hid (by rw [HX.out, ← N4.out]; unfold jumpX; rw [if_neg (show ¬ op = 3 by omega), if_neg (show ¬ op = 4 by omega), if_neg (show ¬ takenP op a b = true by rw [ht]; decide)])
      rw [ht] at T
      clear HX hfm h5 ho ht v4 v5 v8
      generalize u32 ((s.pc : Int) + imm) = tg at *
      go_enter Tryz.func95, Tryz.ntmps95
      go_upto_region 1 with (fail)
      generalize hW : World.alloc (World.alloc zz _) _ = W
      have hW2 : (zz.alloc (.cells (InstV.arr ⟨op, rd, r1, r2, imm⟩) 69)).alloc (.cells (retL ⟨0, 0, 0, false, 0, 0, 0⟩).toArray 38) = W := hW
      rw [hW2] at R0 U0 M0 I0
      clear hW hW2
      have c0 : W.cell? ⟨rb, 0, none⟩ = some (.int .u32 (s.pc : Int)) := by rw [M0.out.cAt 0]; rfl
      have i0 : W.cell? ⟨zz.heap.size, 0, none⟩ = some (.int .i64 (op : Int)) := by rw [cells_of I0.out]; rfl
      have i1 : W.cell? ⟨zz.heap.size, 1, none⟩ = some (.int .i64 (rd : Int)) := by rw [cells_of I0.out]; rfl
      have i4 : W.cell? ⟨zz.heap.size, 4, none⟩ = some (.int .i32 imm) := by rw [cells_of I0.out]; rfl
      go_wp2_with (fail)
      refine (F.out _).mono ?_
      rintro e z1 ⟨rfl, rfl⟩
      go_wp2_with (fail)
      refine (T.out _).mono ?_
      rintro e z1 ⟨rfl, rfl⟩
      go_wp2_with (first
        | go_skip
        | ((with_reducible refine at_st 47 ?_); refine L_store_int 36 (.tmp 47) (.tmp 44) rfl (by kernel_rfl) rb 0 rfl (mcells s gb tv) 55 M0.out.cell .u32 (n4 : Int) rfl info_u1 (by rw [mcells_len s gb tv hr hc]; decide) ?_))
      intro w2 b2 u2 z2
      rw [mset_pc] at b2
      have M2 : Hid (RfAt rb gb base tv { s with pc := n4 } w2) := Lib.hid (M0.out.set u2 b2 rfl rfl)
      have R2 := Lib.hid (u2.keep R0.out (by simp; omega))
      have V2 := Lib.hid ((U0.out.mono (T := [rb]) (by simp)).trans u2)
      clear b2 u2 z2 M0 R0 I0 U0 i0 i1 i4
      go_wp2_with (first
        | go_skip
        | ((with_reducible refine at_st 8 ?_); refine L_store_row 38 (.tmp 8) (.tmp 49) rfl (by kernel_rfl) (zz.heap.size + 1) 0 rfl (retL ⟨0, 0, 0, false, 0, 0, 0⟩) 38 R2.out (retL (pcR s.pc)).toArray rfl 7 info_ret rfl (by decide) (retL_one _) ?_))
      intro wA bA uA zA
      rw [spl_all (by rfl)] at bA
      go_wp2_with (fail)
      refine bodyPost_ret (results_cell_row rfl _ _ (zz.heap.size + 1) 38 (retL (pcR s.pc)).toArray _ _ rfl bA Tryz.underlying38 rfl info_ret) rfl ⟨by rw [EX.out], ?_⟩
      rw [EX.out]
      exact ⟨M2.out.upd uA (by simp; omega) (by simp; omega) (fun g hg => by have := hown g hg; simp; omega), V2.out.then uA (fun x hx hlt => by simp at hx; omega)⟩
    · have EX : Hid (X = jumpP s.pc s.csrs ⟨op, rd, r1, r2, imm⟩ (u32 ((s.pc : Int) + imm))) := Lib.hid (by rw [HX.out]; unfold jumpX; rw [if_neg (show ¬ op = 3 by omega), if_neg (show ¬ op = 4 by omega), if_pos (show takenP op a b = true from ht)])
      rw [ht] at T
      clear HX hfm h5 ho ht v4 v5 v8
      generalize u32 ((s.pc : Int) + imm) = tg at *
      have htg := htp
      have hm4 : ((tg % 4 : Nat) : Int) = (tg : Int) % 4 := by omega
      have h3 : (tg : Int).tmod 4 = (tg : Int) % 4 := by rw [Int.tmod_eq_emod_of_nonneg (by omega)]
      go_enter Tryz.func95, Tryz.ntmps95
      go_upto_region 1 with (fail)
      generalize hW : World.alloc (World.alloc zz _) _ = W
      have hW2 : (zz.alloc (.cells (InstV.arr ⟨op, rd, r1, r2, imm⟩) 69)).alloc (.cells (retL ⟨0, 0, 0, false, 0, 0, 0⟩).toArray 38) = W := hW
      rw [hW2] at R0 U0 M0 I0
      clear hW hW2
      have c0 : W.cell? ⟨rb, 0, none⟩ = some (.int .u32 (s.pc : Int)) := by rw [M0.out.cAt 0]; rfl
      have i0 : W.cell? ⟨zz.heap.size, 0, none⟩ = some (.int .i64 (op : Int)) := by rw [cells_of I0.out]; rfl
      have i1 : W.cell? ⟨zz.heap.size, 1, none⟩ = some (.int .i64 (rd : Int)) := by rw [cells_of I0.out]; rfl
      have i4 : W.cell? ⟨zz.heap.size, 4, none⟩ = some (.int .i32 imm) := by rw [cells_of I0.out]; rfl
      go_wp2_with (fail)
      refine (F.out _).mono ?_
      rintro e z1 ⟨rfl, rfl⟩
      go_wp2_with (fail)
      refine (T.out _).mono ?_
      rintro e z1 ⟨rfl, rfl⟩
      by_cases h4 : tg % 4 = 0
      · have EJ : Hid (X = ⟨writeR s.pc rd n4, tg, s.csrs⟩) := Lib.hid (by rw [EX.out]; unfold jumpP; rw [if_neg (by omega), N4.out])
        have d1 : ((tg : Int) % 4 != 0) = false := by rw [← hm4]; exact (cast_eq_b h4).2
        clear h4 EX
        go_wp2_with (first
          | go_skip
          | ((with_reducible refine at_st 61 ?_); refine L_store_int 36 (.tmp 61) (.tmp 58) rfl (by kernel_rfl) rb 0 rfl (mcells s gb tv) 55 M0.out.cell .u32 (tg : Int) rfl info_u1 (by rw [mcells_len s gb tv hr hc]; decide) ?_))
        intro w2 b2 u2 z2
        rw [mset_pc] at b2
        have M2 : Hid (RfAt rb gb base tv { s with pc := tg } w2) := Lib.hid (M0.out.set u2 b2 rfl rfl)
        have R2 := Lib.hid (u2.keep R0.out (by simp; omega))
        have I2 := Lib.hid (u2.keep I0.out (by simp; omega))
        have V2 := Lib.hid ((U0.out.mono (T := [rb]) (by simp)).trans u2)
        clear b2 u2 z2 M0 R0 I0 U0 i0 i1 i4
        have i1 : w2.cell? ⟨zz.heap.size, 1, none⟩ = some (.int .i64 (rd : Int)) := by rw [cells_of I2.out]; rfl
        go_wp2_with (fail)
        refine (rput_calls rb gb base tv { s with pc := tg } _ M2.out hr hc s.pc rd n4 hd).mono ?_
        rintro e w3 ⟨rfl, m3, u3⟩
        have M3 := Lib.hid m3
        have R3 := Lib.hid (u3.keep R2.out (by simp; omega))
        have V3 := Lib.hid (V2.out.trans u3)
        clear m3 u3 M2 R2 V2 I2 i1
        go_wp2_with (first
          | go_skip
          | ((with_reducible refine at_st 8 ?_); refine L_store_row 38 (.tmp 8) (.tmp 69) rfl (by kernel_rfl) (zz.heap.size + 1) 0 rfl (retL ⟨0, 0, 0, false, 0, 0, 0⟩) 38 R3.out (retL (writeR s.pc rd n4)).toArray rfl 7 info_ret rfl (by decide) (retL_one _) ?_))
        intro wA bA uA zA
        rw [spl_all (by rfl)] at bA
        go_wp2_with (fail)
        refine bodyPost_ret (results_cell_row rfl _ _ (zz.heap.size + 1) 38 (retL (writeR s.pc rd n4)).toArray _ _ rfl bA Tryz.underlying38 rfl info_ret) rfl ⟨by rw [EJ.out], ?_⟩
        rw [EJ.out, applyM_write]
        exact ⟨M3.out.upd uA (by simp; omega) (by simp; omega) (fun g hg => by have := hown g hg; simp; omega), V3.out.then uA (fun x hx hlt => by simp at hx; omega)⟩
      · have EJ : Hid (X = trapP s.pc s.csrs 0 tg) := Lib.hid (by rw [EX.out]; unfold jumpP; rw [if_pos (by omega)])
        have d1 : ((tg : Int) % 4 != 0) = true := by rw [← hm4]; exact (cast_ne_b h4).2
        clear h4 EX
        go_wp2_with (fail)
        refine (rtrap_calls rb gb base tv s _ M0.out hr hc s.pc 0 tg hp (by decide) htg).mono ?_
        rintro e w3 ⟨rfl, m3, u3⟩
        have M3 := Lib.hid m3
        have R3 := Lib.hid (u3.keep R0.out (by simp; omega))
        have V3 := Lib.hid ((U0.out.mono (T := [rb]) (by simp)).trans u3)
        clear m3 u3 M0 R0 U0 I0 i0 i1 i4
        go_wp2_with (first
          | go_skip
          | ((with_reducible refine at_st 8 ?_); refine L_store_row 38 (.tmp 8) (.tmp 56) rfl (by kernel_rfl) (zz.heap.size + 1) 0 rfl (retL ⟨0, 0, 0, false, 0, 0, 0⟩) 38 R3.out (retL (pcR s.pc)).toArray rfl 7 info_ret rfl (by decide) (retL_one _) ?_))
        intro wA bA uA zA
        rw [spl_all (by rfl)] at bA
        go_wp2_with (fail)
        refine bodyPost_ret (results_cell_row rfl _ _ (zz.heap.size + 1) 38 (retL (pcR s.pc)).toArray _ _ rfl bA Tryz.underlying38 rfl info_ret) rfl ⟨by rw [EJ.out]; rfl, ?_⟩
        rw [EJ.out]
        exact ⟨M3.out.upd uA (by simp; omega) (by simp; omega) (fun g hg => by have := hown g hg; simp; omega), V3.out.then uA (fun x hx hlt => by simp at hx; omega)⟩
end Go.Proofs.YtmdjhahafjlebaaGreatDoor

namespace Go.Proofs.YtmdjhahafjlebaaGreatDoor
open Go.RowKit Go.Dio
set_option linter.unusedSimpArgs false
set_option linter.unusedVariables false

def csrF (op r1 a old : Nat) : Nat :=
  if op = 50 then a else if op = 51 then old ||| a else if op = 52 then old &&& (4294967295 ^^^ a)
  else if op = 53 then r1 else if op = 54 then old ||| r1 else old &&& (4294967295 ^^^ r1)
theorem and_all (n : Nat) (h : n < 2 ^ 32) : n &&& (4294967295 ^^^ 0) = n := by
  rw [Nat.xor_zero, show (4294967295 : Nat) = 2 ^ 32 - 1 by decide, Nat.and_two_pow_sub_one_eq_mod, Nat.mod_eq_of_lt h]
theorem csrN_eqF (op r1 a old : Nat) (ho : 50 ≤ op ∧ op ≤ 55) (hz : r1 = 0 → a = 0) (hl : old < 2 ^ 32) : csrN op r1 a old = csrF op r1 a old := by
  unfold csrN csrF
  rcases (by omega : op = 50 ∨ op = 51 ∨ op = 52 ∨ op = 53 ∨ op = 54 ∨ op = 55) with rfl | rfl | rfl | rfl | rfl | rfl
  · by_cases h : r1 = 0 <;> simp [h]
  · by_cases h : r1 = 0
    · simp [h, hz h]
    · simp [h, Nat.or_comm]
  · by_cases h : r1 = 0
    · have := and_all old hl; simp [h, hz h] at this ⊢; exact this.symm
    · simp [h]
  · by_cases h : r1 = 0 <;> simp [h]
  · by_cases h : r1 = 0
    · simp [h]
    · simp [h, Nat.or_comm]
  · by_cases h : r1 = 0
    · have := and_all old hl; simp [h] at this ⊢; exact this.symm
    · simp [h]
set_option maxRecDepth 20000 in
set_option maxHeartbeats 16000000 in
theorem rcsr_calls (rb gb base : Nat) (tv : Value) (s : MSt) (zz : World) (M : RfAt rb gb base tv s zz) (hr : s.regs.length = 32) (hc : s.csrs.length = 5) (hcl : ∀ x ∈ s.csrs, x < 2 ^ 32) (hp : s.pc < 2 ^ 32) (i : InstV) (w a : Nat) (hw : w < 2 ^ 32) (ha : a < 2 ^ 32) (hd : i.rd < 32) (h1 : i.r1 < 32) (hz : i.r1 = 0 → a = 0) (ho : 50 ≤ i.op ∧ i.op ≤ 55) (hi : 0 ≤ i.imm ∧ i.imm < 4096) :
    Calls Tryz.prog 98 #[.pointer (some ⟨rb, 0, none⟩), .agg i.arr, .int .u32 (w : Int), .int .u32 (a : Int)] zz fun e z' => RfR rb gb base tv (applyM s (csrP s.pc w a s.csrs i)) (csrP s.pc w a s.csrs i).r zz e z' := by
  obtain ⟨op, rd, r1, r2, imm⟩ := i
  dsimp only at hd h1 hz ho hi
  obtain ⟨X, hX⟩ : ∃ X, X = csrP s.pc w a s.csrs ⟨op, rd, r1, r2, imm⟩ := ⟨_, rfl⟩
  rw [← hX]
  have HX := Lib.hid hX
  clear hX
  show Calls _ _ #[_, .agg #[.int .i64 (op : Int), .int .i64 (rd : Int), .int .i64 (r1 : Int), .int .i64 (r2 : Int), .int .i32 imm], _, _] _ _
  have hlt := lt_of_block M.cell
  have hgl := lt_of_block M.mem
  have hown : ∀ g, tv.ownBlock = some g → g < zz.heap.size := fun g hg => (World.ownsRow.lt M.own g hg).2
  have R0 := Lib.hid (hl2 zz (.cells (InstV.arr ⟨op, rd, r1, r2, imm⟩) 69) (.cells (retL ⟨0, 0, 0, false, 0, 0, 0⟩).toArray 38))
  have I0 := Lib.hid (heap_old (hl1 zz (.cells (InstV.arr ⟨op, rd, r1, r2, imm⟩) 69)) (.cells (retL ⟨0, 0, 0, false, 0, 0, 0⟩).toArray 38))
  have U0 := Lib.hid (((Upd.refl [] zz).alloc (.cells (InstV.arr ⟨op, rd, r1, r2, imm⟩) 69)).alloc (.cells (retL ⟨0, 0, 0, false, 0, 0, 0⟩).toArray 38))
  have M0 := Lib.hid (M.upd0 U0.out)
  clear M
  have v1 : IntKind.i64.wrap imm = imm := wrapi64 (by omega) (by omega)
  have v6 := wrap_u32 ((s.pc : Int) + 4)
  have v7 := mod_u32 ((s.pc : Int) + 4)
  generalize hn4 : u32 ((s.pc : Int) + 4) = n4 at *
  have N4 := Lib.hid hn4
  clear hn4
  have IX := Lib.hid (fun z => r7index_calls imm z)
  go_enter Tryz.func98, Tryz.ntmps98
  go_upto_region 1 with (fail)
  generalize hW : World.alloc (World.alloc zz _) _ = W
  have hW2 : (zz.alloc (.cells (InstV.arr ⟨op, rd, r1, r2, imm⟩) 69)).alloc (.cells (retL ⟨0, 0, 0, false, 0, 0, 0⟩).toArray 38) = W := hW
  rw [hW2] at R0 U0 M0 I0
  clear hW hW2
  have c0 : W.cell? ⟨rb, 0, none⟩ = some (.int .u32 (s.pc : Int)) := by rw [M0.out.cAt 0]; rfl
  have i4 : W.cell? ⟨zz.heap.size, 4, none⟩ = some (.int .i32 imm) := by rw [cells_of I0.out]; rfl
  go_wp2_with (fail)
  refine (IX.out _).mono ?_
  rintro e w1 ⟨rfl, u1⟩
  have M1 := Lib.hid (M0.out.upd0 u1)
  have R1 := Lib.hid (u1.keep R0.out (by simp))
  have I1 := Lib.hid (u1.keep I0.out (by simp))
  have U1 := Lib.hid (U0.out.trans u1)
  clear u1 M0 R0 I0 U0 c0 i4 IX
  rcases Int.lt_or_le (idxP imm) 0 with hneg | hpos
  · have EX : Hid (X = trapP s.pc s.csrs 2 w) := Lib.hid (by rw [HX.out]; unfold csrP; rw [if_pos hneg])
    have d0 : decide (idxP imm < 0) = true := decide_eq_true hneg
    clear hneg HX
    generalize idxP imm = kk at *
    go_wp2_with (fail)
    refine (rtrap_calls rb gb base tv s _ M1.out hr hc s.pc 2 w hp (by decide) hw).mono ?_
    rintro e w3 ⟨rfl, m3, u3⟩
    have M3 := Lib.hid m3
    have R3 := Lib.hid (u3.keep R1.out (by simp; omega))
    have V3 := Lib.hid ((U1.out.mono (T := [rb]) (by simp)).trans u3)
    clear m3 u3 M1 R1 U1 I1
    go_wp2_with (first
      | go_skip
      | ((with_reducible refine at_st 8 ?_); refine L_store_row 38 (.tmp 8) (.tmp 27) rfl (by kernel_rfl) (zz.heap.size + 1) 0 rfl (retL ⟨0, 0, 0, false, 0, 0, 0⟩) 38 R3.out (retL (pcR s.pc)).toArray rfl 7 info_ret rfl (by decide) (retL_one _) ?_))
    intro wA bA uA zA
    rw [spl_all (by rfl)] at bA
    go_wp2_with (fail)
    refine bodyPost_ret (results_cell_row rfl _ _ (zz.heap.size + 1) 38 (retL (pcR s.pc)).toArray _ _ rfl bA Tryz.underlying38 rfl info_ret) rfl ⟨by rw [EX.out]; rfl, ?_⟩
    rw [EX.out]
    exact ⟨M3.out.upd uA (by simp; omega) (by simp; omega) (fun g hg => by have := hown g hg; simp; omega), V3.out.then uA (fun x hx hlt => by simp at hx; omega)⟩
  · have hk5 : idxP imm < 5 := by unfold idxP; repeat (first | split | decide)
    obtain ⟨k, hk0⟩ : ∃ k : Nat, idxP imm = (k : Int) := ⟨(idxP imm).toNat, by omega⟩
    have hk : k < 5 := by omega
    have hX2 : X = ⟨writeR s.pc rd (nth s.csrs k), n4, s.csrs.set k (if k = 0 ∨ k = 2 then low2 (csrN op r1 a (nth s.csrs k)) else csrN op r1 a (nth s.csrs k))⟩ := by
      rw [HX.out, ← N4.out]; unfold csrP; rw [if_neg (show ¬ idxP imm < 0 by omega)]; simp only [hk0, Int.toNat_natCast]
    rw [csrN_eqF op r1 a (nth s.csrs k) ho hz (nthB2 hcl (by decide) k)] at hX2
    replace HX := Lib.hid hX2
    have ck : w1.cell? ⟨rb, 33 + k, none⟩ = some (.int .u32 ((nth s.csrs k : Nat) : Int)) := by rw [M1.out.cAt]; exact mc_csr s gb tv k hr hc hk
    have hol : nth s.csrs k < 2 ^ 32 := nthB2 hcl (by decide) k
    rw [hk0]
    clear hX2 hk0 hk5 hpos
    generalize nth s.csrs k = old at *
    have d0 : decide ((k : Int) < 0) = false := decide_eq_false (by omega)
    have d5 : decide ((k : Int) < 5) = true := decide_eq_true (by omega)
    have i0 : w1.cell? ⟨zz.heap.size, 0, none⟩ = some (.int .i64 (op : Int)) := by rw [cells_of I1.out]; rfl
    have i1 : w1.cell? ⟨zz.heap.size, 1, none⟩ = some (.int .i64 (rd : Int)) := by rw [cells_of I1.out]; rfl
    have i2 : w1.cell? ⟨zz.heap.size, 2, none⟩ = some (.int .i64 (r1 : Int)) := by rw [cells_of I1.out]; rfl
    have r1w : IntKind.u32.wrap (r1 : Int) = (r1 : Int) := by rw [wrap_u32, u32_id (by omega)]
    have r1m : (r1 : Int) % 4294967296 = (r1 : Int) := by omega
    have r1l : r1 < 2 ^ 32 := by omega
    rcases (by omega : op = 50 ∨ op = 51 ∨ op = 52 ∨ op = 53 ∨ op = 54 ∨ op = 55) with rfl | rfl | rfl | rfl | rfl | rfl
    · have HN : Hid (csrF 50 r1 a old = a) := Lib.hid rfl
      have hn1 := ha
      generalize a = n1 at *
      have hh := high2 n1 hn1
      rcases (by omega : k = 0 ∨ k = 2 ∨ (k ≠ 0 ∧ k ≠ 2)) with hk0 | hk2 | ⟨hk0, hk2⟩
      · have EX : Hid (X = ⟨writeR s.pc rd old, n4, s.csrs.set k (n1 / 4 * 4)⟩) := Lib.hid (by rw [HX.out, HN.out, if_pos (Or.inl hk0)]; rfl)
        have f0 : ((k : Int) == 0) = true := by rw [beq_iff_eq]; omega
        clear hk0 HX HN
        generalize n1 / 4 * 4 = n2 at *
        go_wp2_with (first
          | go_skip
          | ((with_reducible refine at_st 70 ?_); refine L_store_int 36 (.tmp 70) (.tmp 66) rfl (by kernel_rfl) rb (33 + k) rfl (mcells s gb tv) 55 M1.out.cell .u32 ((n2 : Nat) : Int) rfl info_u1 (by rw [mcells_len s gb tv hr hc]; omega) ?_))
        intro w2 b2 u2 z2
        rw [mset_csr s gb tv k n2 hr hc hk] at b2
        have M2 : Hid (RfAt rb gb base tv { s with csrs := s.csrs.set k n2 } w2) := Lib.hid (M1.out.set u2 b2 rfl rfl)
        have R2 := Lib.hid (u2.keep R1.out (by simp; omega))
        have I2 := Lib.hid (u2.keep I1.out (by simp; omega))
        have V2 := Lib.hid ((U1.out.mono (T := [rb]) (by simp)).trans u2)
        clear b2 u2 z2 M1 R1 I1 U1 i0 i1 i2 ck
        have hc2 : (s.csrs.set k n2).length = 5 := by rw [List.length_set]; exact hc
        go_wp2_with (first
          | go_skip
          | ((with_reducible refine at_st 76 ?_); refine L_store_int 36 (.tmp 76) (.tmp 73) rfl (by kernel_rfl) rb 0 rfl (mcells { s with csrs := s.csrs.set k n2 } gb tv) 55 M2.out.cell .u32 (n4 : Int) rfl info_u1 (by rw [mcells_len { s with csrs := s.csrs.set k n2 } gb tv hr hc2]; decide) ?_))
        intro w3 b3 u3 z3
        rw [mset_pc] at b3
        have M3 : Hid (RfAt rb gb base tv { s with csrs := s.csrs.set k n2, pc := n4 } w3) := Lib.hid (M2.out.set u3 b3 rfl rfl)
        have R3 := Lib.hid (u3.keep R2.out (by simp; omega))
        have I3 := Lib.hid (u3.keep I2.out (by simp; omega))
        have V3 := Lib.hid (V2.out.trans u3)
        clear b3 u3 z3 M2 R2 I2 V2
        have i1 : w3.cell? ⟨zz.heap.size, 1, none⟩ = some (.int .i64 (rd : Int)) := by rw [cells_of I3.out]; rfl
        go_wp2_with (fail)
        refine (rput_calls rb gb base tv { s with csrs := s.csrs.set k n2, pc := n4 } _ M3.out hr hc2 s.pc rd old hd).mono ?_
        rintro e w4 ⟨rfl, m4, u4⟩
        have M4 := Lib.hid m4
        have R4 := Lib.hid (u4.keep R3.out (by simp; omega))
        have V4 := Lib.hid (V3.out.trans u4)
        clear m4 u4 M3 R3 I3 V3 i1
        go_wp2_with (first
          | go_skip
          | ((with_reducible refine at_st 8 ?_); refine L_store_row 38 (.tmp 8) (.tmp 83) rfl (by kernel_rfl) (zz.heap.size + 1) 0 rfl (retL ⟨0, 0, 0, false, 0, 0, 0⟩) 38 R4.out (retL (writeR s.pc rd old)).toArray rfl 7 info_ret rfl (by decide) (retL_one _) ?_))
        intro wA bA uA zA
        rw [spl_all (by rfl)] at bA
        go_wp2_with (fail)
        refine bodyPost_ret (results_cell_row rfl _ _ (zz.heap.size + 1) 38 (retL (writeR s.pc rd old)).toArray _ _ rfl bA Tryz.underlying38 rfl info_ret) rfl ⟨by rw [EX.out], ?_⟩
        rw [EX.out, applyM_write]
        exact ⟨M4.out.upd uA (by simp; omega) (by simp; omega) (fun g hg => by have := hown g hg; simp; omega), V4.out.then uA (fun x hx hlt => by simp at hx; omega)⟩
      · have EX : Hid (X = ⟨writeR s.pc rd old, n4, s.csrs.set k (n1 / 4 * 4)⟩) := Lib.hid (by rw [HX.out, HN.out, if_pos (Or.inr hk2)]; rfl)
        have f0 : ((k : Int) == 0) = false := by rw [beq_eq_false_iff_ne]; omega
        have f2 : ((k : Int) == 2) = true := by rw [beq_iff_eq]; omega
        clear hk2 HX HN
        generalize n1 / 4 * 4 = n2 at *
        go_wp2_with (first
          | go_skip
          | ((with_reducible refine at_st 70 ?_); refine L_store_int 36 (.tmp 70) (.tmp 66) rfl (by kernel_rfl) rb (33 + k) rfl (mcells s gb tv) 55 M1.out.cell .u32 ((n2 : Nat) : Int) rfl info_u1 (by rw [mcells_len s gb tv hr hc]; omega) ?_))
        intro w2 b2 u2 z2
        rw [mset_csr s gb tv k n2 hr hc hk] at b2
        have M2 : Hid (RfAt rb gb base tv { s with csrs := s.csrs.set k n2 } w2) := Lib.hid (M1.out.set u2 b2 rfl rfl)
        have R2 := Lib.hid (u2.keep R1.out (by simp; omega))
        have I2 := Lib.hid (u2.keep I1.out (by simp; omega))
        have V2 := Lib.hid ((U1.out.mono (T := [rb]) (by simp)).trans u2)
        clear b2 u2 z2 M1 R1 I1 U1 i0 i1 i2 ck
        have hc2 : (s.csrs.set k n2).length = 5 := by rw [List.length_set]; exact hc
        go_wp2_with (first
          | go_skip
          | ((with_reducible refine at_st 76 ?_); refine L_store_int 36 (.tmp 76) (.tmp 73) rfl (by kernel_rfl) rb 0 rfl (mcells { s with csrs := s.csrs.set k n2 } gb tv) 55 M2.out.cell .u32 (n4 : Int) rfl info_u1 (by rw [mcells_len { s with csrs := s.csrs.set k n2 } gb tv hr hc2]; decide) ?_))
        intro w3 b3 u3 z3
        rw [mset_pc] at b3
        have M3 : Hid (RfAt rb gb base tv { s with csrs := s.csrs.set k n2, pc := n4 } w3) := Lib.hid (M2.out.set u3 b3 rfl rfl)
        have R3 := Lib.hid (u3.keep R2.out (by simp; omega))
        have I3 := Lib.hid (u3.keep I2.out (by simp; omega))
        have V3 := Lib.hid (V2.out.trans u3)
        clear b3 u3 z3 M2 R2 I2 V2
        have i1 : w3.cell? ⟨zz.heap.size, 1, none⟩ = some (.int .i64 (rd : Int)) := by rw [cells_of I3.out]; rfl
        go_wp2_with (fail)
        refine (rput_calls rb gb base tv { s with csrs := s.csrs.set k n2, pc := n4 } _ M3.out hr hc2 s.pc rd old hd).mono ?_
        rintro e w4 ⟨rfl, m4, u4⟩
        have M4 := Lib.hid m4
        have R4 := Lib.hid (u4.keep R3.out (by simp; omega))
        have V4 := Lib.hid (V3.out.trans u4)
        clear m4 u4 M3 R3 I3 V3 i1
        go_wp2_with (first
          | go_skip
          | ((with_reducible refine at_st 8 ?_); refine L_store_row 38 (.tmp 8) (.tmp 83) rfl (by kernel_rfl) (zz.heap.size + 1) 0 rfl (retL ⟨0, 0, 0, false, 0, 0, 0⟩) 38 R4.out (retL (writeR s.pc rd old)).toArray rfl 7 info_ret rfl (by decide) (retL_one _) ?_))
        intro wA bA uA zA
        rw [spl_all (by rfl)] at bA
        go_wp2_with (fail)
        refine bodyPost_ret (results_cell_row rfl _ _ (zz.heap.size + 1) 38 (retL (writeR s.pc rd old)).toArray _ _ rfl bA Tryz.underlying38 rfl info_ret) rfl ⟨by rw [EX.out], ?_⟩
        rw [EX.out, applyM_write]
        exact ⟨M4.out.upd uA (by simp; omega) (by simp; omega) (fun g hg => by have := hown g hg; simp; omega), V4.out.then uA (fun x hx hlt => by simp at hx; omega)⟩
      · have EX : Hid (X = ⟨writeR s.pc rd old, n4, s.csrs.set k n1⟩) := Lib.hid (by rw [HX.out, HN.out, if_neg (by omega)])
        have f0 : ((k : Int) == 0) = false := by rw [beq_eq_false_iff_ne]; omega
        have f2 : ((k : Int) == 2) = false := by rw [beq_eq_false_iff_ne]; omega
        clear hk0 hk2 HX HN hh
        go_wp2_with (first
          | go_skip
          | ((with_reducible refine at_st 70 ?_); refine L_store_int 36 (.tmp 70) (.tmp 66) rfl (by kernel_rfl) rb (33 + k) rfl (mcells s gb tv) 55 M1.out.cell .u32 ((n1 : Nat) : Int) rfl info_u1 (by rw [mcells_len s gb tv hr hc]; omega) ?_))
        intro w2 b2 u2 z2
        rw [mset_csr s gb tv k n1 hr hc hk] at b2
        have M2 : Hid (RfAt rb gb base tv { s with csrs := s.csrs.set k n1 } w2) := Lib.hid (M1.out.set u2 b2 rfl rfl)
        have R2 := Lib.hid (u2.keep R1.out (by simp; omega))
        have I2 := Lib.hid (u2.keep I1.out (by simp; omega))
        have V2 := Lib.hid ((U1.out.mono (T := [rb]) (by simp)).trans u2)
        clear b2 u2 z2 M1 R1 I1 U1 i0 i1 i2 ck
        have hc2 : (s.csrs.set k n1).length = 5 := by rw [List.length_set]; exact hc
        go_wp2_with (first
          | go_skip
          | ((with_reducible refine at_st 76 ?_); refine L_store_int 36 (.tmp 76) (.tmp 73) rfl (by kernel_rfl) rb 0 rfl (mcells { s with csrs := s.csrs.set k n1 } gb tv) 55 M2.out.cell .u32 (n4 : Int) rfl info_u1 (by rw [mcells_len { s with csrs := s.csrs.set k n1 } gb tv hr hc2]; decide) ?_))
        intro w3 b3 u3 z3
        rw [mset_pc] at b3
        have M3 : Hid (RfAt rb gb base tv { s with csrs := s.csrs.set k n1, pc := n4 } w3) := Lib.hid (M2.out.set u3 b3 rfl rfl)
        have R3 := Lib.hid (u3.keep R2.out (by simp; omega))
        have I3 := Lib.hid (u3.keep I2.out (by simp; omega))
        have V3 := Lib.hid (V2.out.trans u3)
        clear b3 u3 z3 M2 R2 I2 V2
        have i1 : w3.cell? ⟨zz.heap.size, 1, none⟩ = some (.int .i64 (rd : Int)) := by rw [cells_of I3.out]; rfl
        go_wp2_with (fail)
        refine (rput_calls rb gb base tv { s with csrs := s.csrs.set k n1, pc := n4 } _ M3.out hr hc2 s.pc rd old hd).mono ?_
        rintro e w4 ⟨rfl, m4, u4⟩
        have M4 := Lib.hid m4
        have R4 := Lib.hid (u4.keep R3.out (by simp; omega))
        have V4 := Lib.hid (V3.out.trans u4)
        clear m4 u4 M3 R3 I3 V3 i1
        go_wp2_with (first
          | go_skip
          | ((with_reducible refine at_st 8 ?_); refine L_store_row 38 (.tmp 8) (.tmp 83) rfl (by kernel_rfl) (zz.heap.size + 1) 0 rfl (retL ⟨0, 0, 0, false, 0, 0, 0⟩) 38 R4.out (retL (writeR s.pc rd old)).toArray rfl 7 info_ret rfl (by decide) (retL_one _) ?_))
        intro wA bA uA zA
        rw [spl_all (by rfl)] at bA
        go_wp2_with (fail)
        refine bodyPost_ret (results_cell_row rfl _ _ (zz.heap.size + 1) 38 (retL (writeR s.pc rd old)).toArray _ _ rfl bA Tryz.underlying38 rfl info_ret) rfl ⟨by rw [EX.out], ?_⟩
        rw [EX.out, applyM_write]
        exact ⟨M4.out.upd uA (by simp; omega) (by simp; omega) (fun g hg => by have := hown g hg; simp; omega), V4.out.then uA (fun x hx hlt => by simp at hx; omega)⟩
    · have HN : Hid (csrF 51 r1 a old = old ||| a) := Lib.hid rfl
      have hn1 := Nat.or_lt_two_pow hol ha
      have hb := or32 old a hol ha
      generalize old ||| a = n1 at *
      have hh := high2 n1 hn1
      rcases (by omega : k = 0 ∨ k = 2 ∨ (k ≠ 0 ∧ k ≠ 2)) with hk0 | hk2 | ⟨hk0, hk2⟩
      · have EX : Hid (X = ⟨writeR s.pc rd old, n4, s.csrs.set k (n1 / 4 * 4)⟩) := Lib.hid (by rw [HX.out, HN.out, if_pos (Or.inl hk0)]; rfl)
        have f0 : ((k : Int) == 0) = true := by rw [beq_iff_eq]; omega
        clear hk0 HX HN
        generalize n1 / 4 * 4 = n2 at *
        go_wp2_with (first
          | go_skip
          | ((with_reducible refine at_st 70 ?_); refine L_store_int 36 (.tmp 70) (.tmp 66) rfl (by kernel_rfl) rb (33 + k) rfl (mcells s gb tv) 55 M1.out.cell .u32 ((n2 : Nat) : Int) rfl info_u1 (by rw [mcells_len s gb tv hr hc]; omega) ?_))
        intro w2 b2 u2 z2
        rw [mset_csr s gb tv k n2 hr hc hk] at b2
        have M2 : Hid (RfAt rb gb base tv { s with csrs := s.csrs.set k n2 } w2) := Lib.hid (M1.out.set u2 b2 rfl rfl)
        have R2 := Lib.hid (u2.keep R1.out (by simp; omega))
        have I2 := Lib.hid (u2.keep I1.out (by simp; omega))
        have V2 := Lib.hid ((U1.out.mono (T := [rb]) (by simp)).trans u2)
        clear b2 u2 z2 M1 R1 I1 U1 i0 i1 i2 ck
        have hc2 : (s.csrs.set k n2).length = 5 := by rw [List.length_set]; exact hc
        go_wp2_with (first
          | go_skip
          | ((with_reducible refine at_st 76 ?_); refine L_store_int 36 (.tmp 76) (.tmp 73) rfl (by kernel_rfl) rb 0 rfl (mcells { s with csrs := s.csrs.set k n2 } gb tv) 55 M2.out.cell .u32 (n4 : Int) rfl info_u1 (by rw [mcells_len { s with csrs := s.csrs.set k n2 } gb tv hr hc2]; decide) ?_))
        intro w3 b3 u3 z3
        rw [mset_pc] at b3
        have M3 : Hid (RfAt rb gb base tv { s with csrs := s.csrs.set k n2, pc := n4 } w3) := Lib.hid (M2.out.set u3 b3 rfl rfl)
        have R3 := Lib.hid (u3.keep R2.out (by simp; omega))
        have I3 := Lib.hid (u3.keep I2.out (by simp; omega))
        have V3 := Lib.hid (V2.out.trans u3)
        clear b3 u3 z3 M2 R2 I2 V2
        have i1 : w3.cell? ⟨zz.heap.size, 1, none⟩ = some (.int .i64 (rd : Int)) := by rw [cells_of I3.out]; rfl
        go_wp2_with (fail)
        refine (rput_calls rb gb base tv { s with csrs := s.csrs.set k n2, pc := n4 } _ M3.out hr hc2 s.pc rd old hd).mono ?_
        rintro e w4 ⟨rfl, m4, u4⟩
        have M4 := Lib.hid m4
        have R4 := Lib.hid (u4.keep R3.out (by simp; omega))
        have V4 := Lib.hid (V3.out.trans u4)
        clear m4 u4 M3 R3 I3 V3 i1
        go_wp2_with (first
          | go_skip
          | ((with_reducible refine at_st 8 ?_); refine L_store_row 38 (.tmp 8) (.tmp 83) rfl (by kernel_rfl) (zz.heap.size + 1) 0 rfl (retL ⟨0, 0, 0, false, 0, 0, 0⟩) 38 R4.out (retL (writeR s.pc rd old)).toArray rfl 7 info_ret rfl (by decide) (retL_one _) ?_))
        intro wA bA uA zA
        rw [spl_all (by rfl)] at bA
        go_wp2_with (fail)
        refine bodyPost_ret (results_cell_row rfl _ _ (zz.heap.size + 1) 38 (retL (writeR s.pc rd old)).toArray _ _ rfl bA Tryz.underlying38 rfl info_ret) rfl ⟨by rw [EX.out], ?_⟩
        rw [EX.out, applyM_write]
        exact ⟨M4.out.upd uA (by simp; omega) (by simp; omega) (fun g hg => by have := hown g hg; simp; omega), V4.out.then uA (fun x hx hlt => by simp at hx; omega)⟩
      · have EX : Hid (X = ⟨writeR s.pc rd old, n4, s.csrs.set k (n1 / 4 * 4)⟩) := Lib.hid (by rw [HX.out, HN.out, if_pos (Or.inr hk2)]; rfl)
        have f0 : ((k : Int) == 0) = false := by rw [beq_eq_false_iff_ne]; omega
        have f2 : ((k : Int) == 2) = true := by rw [beq_iff_eq]; omega
        clear hk2 HX HN
        generalize n1 / 4 * 4 = n2 at *
        go_wp2_with (first
          | go_skip
          | ((with_reducible refine at_st 70 ?_); refine L_store_int 36 (.tmp 70) (.tmp 66) rfl (by kernel_rfl) rb (33 + k) rfl (mcells s gb tv) 55 M1.out.cell .u32 ((n2 : Nat) : Int) rfl info_u1 (by rw [mcells_len s gb tv hr hc]; omega) ?_))
        intro w2 b2 u2 z2
        rw [mset_csr s gb tv k n2 hr hc hk] at b2
        have M2 : Hid (RfAt rb gb base tv { s with csrs := s.csrs.set k n2 } w2) := Lib.hid (M1.out.set u2 b2 rfl rfl)
        have R2 := Lib.hid (u2.keep R1.out (by simp; omega))
        have I2 := Lib.hid (u2.keep I1.out (by simp; omega))
        have V2 := Lib.hid ((U1.out.mono (T := [rb]) (by simp)).trans u2)
        clear b2 u2 z2 M1 R1 I1 U1 i0 i1 i2 ck
        have hc2 : (s.csrs.set k n2).length = 5 := by rw [List.length_set]; exact hc
        go_wp2_with (first
          | go_skip
          | ((with_reducible refine at_st 76 ?_); refine L_store_int 36 (.tmp 76) (.tmp 73) rfl (by kernel_rfl) rb 0 rfl (mcells { s with csrs := s.csrs.set k n2 } gb tv) 55 M2.out.cell .u32 (n4 : Int) rfl info_u1 (by rw [mcells_len { s with csrs := s.csrs.set k n2 } gb tv hr hc2]; decide) ?_))
        intro w3 b3 u3 z3
        rw [mset_pc] at b3
        have M3 : Hid (RfAt rb gb base tv { s with csrs := s.csrs.set k n2, pc := n4 } w3) := Lib.hid (M2.out.set u3 b3 rfl rfl)
        have R3 := Lib.hid (u3.keep R2.out (by simp; omega))
        have I3 := Lib.hid (u3.keep I2.out (by simp; omega))
        have V3 := Lib.hid (V2.out.trans u3)
        clear b3 u3 z3 M2 R2 I2 V2
        have i1 : w3.cell? ⟨zz.heap.size, 1, none⟩ = some (.int .i64 (rd : Int)) := by rw [cells_of I3.out]; rfl
        go_wp2_with (fail)
        refine (rput_calls rb gb base tv { s with csrs := s.csrs.set k n2, pc := n4 } _ M3.out hr hc2 s.pc rd old hd).mono ?_
        rintro e w4 ⟨rfl, m4, u4⟩
        have M4 := Lib.hid m4
        have R4 := Lib.hid (u4.keep R3.out (by simp; omega))
        have V4 := Lib.hid (V3.out.trans u4)
        clear m4 u4 M3 R3 I3 V3 i1
        go_wp2_with (first
          | go_skip
          | ((with_reducible refine at_st 8 ?_); refine L_store_row 38 (.tmp 8) (.tmp 83) rfl (by kernel_rfl) (zz.heap.size + 1) 0 rfl (retL ⟨0, 0, 0, false, 0, 0, 0⟩) 38 R4.out (retL (writeR s.pc rd old)).toArray rfl 7 info_ret rfl (by decide) (retL_one _) ?_))
        intro wA bA uA zA
        rw [spl_all (by rfl)] at bA
        go_wp2_with (fail)
        refine bodyPost_ret (results_cell_row rfl _ _ (zz.heap.size + 1) 38 (retL (writeR s.pc rd old)).toArray _ _ rfl bA Tryz.underlying38 rfl info_ret) rfl ⟨by rw [EX.out], ?_⟩
        rw [EX.out, applyM_write]
        exact ⟨M4.out.upd uA (by simp; omega) (by simp; omega) (fun g hg => by have := hown g hg; simp; omega), V4.out.then uA (fun x hx hlt => by simp at hx; omega)⟩
      · have EX : Hid (X = ⟨writeR s.pc rd old, n4, s.csrs.set k n1⟩) := Lib.hid (by rw [HX.out, HN.out, if_neg (by omega)])
        have f0 : ((k : Int) == 0) = false := by rw [beq_eq_false_iff_ne]; omega
        have f2 : ((k : Int) == 2) = false := by rw [beq_eq_false_iff_ne]; omega
        clear hk0 hk2 HX HN hh
        go_wp2_with (first
          | go_skip
          | ((with_reducible refine at_st 70 ?_); refine L_store_int 36 (.tmp 70) (.tmp 66) rfl (by kernel_rfl) rb (33 + k) rfl (mcells s gb tv) 55 M1.out.cell .u32 ((n1 : Nat) : Int) rfl info_u1 (by rw [mcells_len s gb tv hr hc]; omega) ?_))
        intro w2 b2 u2 z2
        rw [mset_csr s gb tv k n1 hr hc hk] at b2
        have M2 : Hid (RfAt rb gb base tv { s with csrs := s.csrs.set k n1 } w2) := Lib.hid (M1.out.set u2 b2 rfl rfl)
        have R2 := Lib.hid (u2.keep R1.out (by simp; omega))
        have I2 := Lib.hid (u2.keep I1.out (by simp; omega))
        have V2 := Lib.hid ((U1.out.mono (T := [rb]) (by simp)).trans u2)
        clear b2 u2 z2 M1 R1 I1 U1 i0 i1 i2 ck
        have hc2 : (s.csrs.set k n1).length = 5 := by rw [List.length_set]; exact hc
        go_wp2_with (first
          | go_skip
          | ((with_reducible refine at_st 76 ?_); refine L_store_int 36 (.tmp 76) (.tmp 73) rfl (by kernel_rfl) rb 0 rfl (mcells { s with csrs := s.csrs.set k n1 } gb tv) 55 M2.out.cell .u32 (n4 : Int) rfl info_u1 (by rw [mcells_len { s with csrs := s.csrs.set k n1 } gb tv hr hc2]; decide) ?_))
        intro w3 b3 u3 z3
        rw [mset_pc] at b3
        have M3 : Hid (RfAt rb gb base tv { s with csrs := s.csrs.set k n1, pc := n4 } w3) := Lib.hid (M2.out.set u3 b3 rfl rfl)
        have R3 := Lib.hid (u3.keep R2.out (by simp; omega))
        have I3 := Lib.hid (u3.keep I2.out (by simp; omega))
        have V3 := Lib.hid (V2.out.trans u3)
        clear b3 u3 z3 M2 R2 I2 V2
        have i1 : w3.cell? ⟨zz.heap.size, 1, none⟩ = some (.int .i64 (rd : Int)) := by rw [cells_of I3.out]; rfl
        go_wp2_with (fail)
        refine (rput_calls rb gb base tv { s with csrs := s.csrs.set k n1, pc := n4 } _ M3.out hr hc2 s.pc rd old hd).mono ?_
        rintro e w4 ⟨rfl, m4, u4⟩
        have M4 := Lib.hid m4
        have R4 := Lib.hid (u4.keep R3.out (by simp; omega))
        have V4 := Lib.hid (V3.out.trans u4)
        clear m4 u4 M3 R3 I3 V3 i1
        go_wp2_with (first
          | go_skip
          | ((with_reducible refine at_st 8 ?_); refine L_store_row 38 (.tmp 8) (.tmp 83) rfl (by kernel_rfl) (zz.heap.size + 1) 0 rfl (retL ⟨0, 0, 0, false, 0, 0, 0⟩) 38 R4.out (retL (writeR s.pc rd old)).toArray rfl 7 info_ret rfl (by decide) (retL_one _) ?_))
        intro wA bA uA zA
        rw [spl_all (by rfl)] at bA
        go_wp2_with (fail)
        refine bodyPost_ret (results_cell_row rfl _ _ (zz.heap.size + 1) 38 (retL (writeR s.pc rd old)).toArray _ _ rfl bA Tryz.underlying38 rfl info_ret) rfl ⟨by rw [EX.out], ?_⟩
        rw [EX.out, applyM_write]
        exact ⟨M4.out.upd uA (by simp; omega) (by simp; omega) (fun g hg => by have := hown g hg; simp; omega), V4.out.then uA (fun x hx hlt => by simp at hx; omega)⟩
    · have HN : Hid (csrF 52 r1 a old = old &&& (4294967295 ^^^ a)) := Lib.hid rfl
      have hn1 := Nat.lt_of_le_of_lt (Nat.and_le_left (n := old) (m := (4294967295 ^^^ a))) hol
      have hb := andnot32 old a hol ha
      generalize old &&& (4294967295 ^^^ a) = n1 at *
      have hh := high2 n1 hn1
      rcases (by omega : k = 0 ∨ k = 2 ∨ (k ≠ 0 ∧ k ≠ 2)) with hk0 | hk2 | ⟨hk0, hk2⟩
      · have EX : Hid (X = ⟨writeR s.pc rd old, n4, s.csrs.set k (n1 / 4 * 4)⟩) := Lib.hid (by rw [HX.out, HN.out, if_pos (Or.inl hk0)]; rfl)
        have f0 : ((k : Int) == 0) = true := by rw [beq_iff_eq]; omega
        clear hk0 HX HN
        generalize n1 / 4 * 4 = n2 at *
        go_wp2_with (first
          | go_skip
          | ((with_reducible refine at_st 70 ?_); refine L_store_int 36 (.tmp 70) (.tmp 66) rfl (by kernel_rfl) rb (33 + k) rfl (mcells s gb tv) 55 M1.out.cell .u32 ((n2 : Nat) : Int) rfl info_u1 (by rw [mcells_len s gb tv hr hc]; omega) ?_))
        intro w2 b2 u2 z2
        rw [mset_csr s gb tv k n2 hr hc hk] at b2
        have M2 : Hid (RfAt rb gb base tv { s with csrs := s.csrs.set k n2 } w2) := Lib.hid (M1.out.set u2 b2 rfl rfl)
        have R2 := Lib.hid (u2.keep R1.out (by simp; omega))
        have I2 := Lib.hid (u2.keep I1.out (by simp; omega))
        have V2 := Lib.hid ((U1.out.mono (T := [rb]) (by simp)).trans u2)
        clear b2 u2 z2 M1 R1 I1 U1 i0 i1 i2 ck
        have hc2 : (s.csrs.set k n2).length = 5 := by rw [List.length_set]; exact hc
        go_wp2_with (first
          | go_skip
          | ((with_reducible refine at_st 76 ?_); refine L_store_int 36 (.tmp 76) (.tmp 73) rfl (by kernel_rfl) rb 0 rfl (mcells { s with csrs := s.csrs.set k n2 } gb tv) 55 M2.out.cell .u32 (n4 : Int) rfl info_u1 (by rw [mcells_len { s with csrs := s.csrs.set k n2 } gb tv hr hc2]; decide) ?_))
        intro w3 b3 u3 z3
        rw [mset_pc] at b3
        have M3 : Hid (RfAt rb gb base tv { s with csrs := s.csrs.set k n2, pc := n4 } w3) := Lib.hid (M2.out.set u3 b3 rfl rfl)
        have R3 := Lib.hid (u3.keep R2.out (by simp; omega))
        have I3 := Lib.hid (u3.keep I2.out (by simp; omega))
        have V3 := Lib.hid (V2.out.trans u3)
        clear b3 u3 z3 M2 R2 I2 V2
        have i1 : w3.cell? ⟨zz.heap.size, 1, none⟩ = some (.int .i64 (rd : Int)) := by rw [cells_of I3.out]; rfl
        go_wp2_with (fail)
        refine (rput_calls rb gb base tv { s with csrs := s.csrs.set k n2, pc := n4 } _ M3.out hr hc2 s.pc rd old hd).mono ?_
        rintro e w4 ⟨rfl, m4, u4⟩
        have M4 := Lib.hid m4
        have R4 := Lib.hid (u4.keep R3.out (by simp; omega))
        have V4 := Lib.hid (V3.out.trans u4)
        clear m4 u4 M3 R3 I3 V3 i1
        go_wp2_with (first
          | go_skip
          | ((with_reducible refine at_st 8 ?_); refine L_store_row 38 (.tmp 8) (.tmp 83) rfl (by kernel_rfl) (zz.heap.size + 1) 0 rfl (retL ⟨0, 0, 0, false, 0, 0, 0⟩) 38 R4.out (retL (writeR s.pc rd old)).toArray rfl 7 info_ret rfl (by decide) (retL_one _) ?_))
        intro wA bA uA zA
        rw [spl_all (by rfl)] at bA
        go_wp2_with (fail)
        refine bodyPost_ret (results_cell_row rfl _ _ (zz.heap.size + 1) 38 (retL (writeR s.pc rd old)).toArray _ _ rfl bA Tryz.underlying38 rfl info_ret) rfl ⟨by rw [EX.out], ?_⟩
        rw [EX.out, applyM_write]
        exact ⟨M4.out.upd uA (by simp; omega) (by simp; omega) (fun g hg => by have := hown g hg; simp; omega), V4.out.then uA (fun x hx hlt => by simp at hx; omega)⟩
      · have EX : Hid (X = ⟨writeR s.pc rd old, n4, s.csrs.set k (n1 / 4 * 4)⟩) := Lib.hid (by rw [HX.out, HN.out, if_pos (Or.inr hk2)]; rfl)
        have f0 : ((k : Int) == 0) = false := by rw [beq_eq_false_iff_ne]; omega
        have f2 : ((k : Int) == 2) = true := by rw [beq_iff_eq]; omega
        clear hk2 HX HN
        generalize n1 / 4 * 4 = n2 at *
        go_wp2_with (first
          | go_skip
          | ((with_reducible refine at_st 70 ?_); refine L_store_int 36 (.tmp 70) (.tmp 66) rfl (by kernel_rfl) rb (33 + k) rfl (mcells s gb tv) 55 M1.out.cell .u32 ((n2 : Nat) : Int) rfl info_u1 (by rw [mcells_len s gb tv hr hc]; omega) ?_))
        intro w2 b2 u2 z2
        rw [mset_csr s gb tv k n2 hr hc hk] at b2
        have M2 : Hid (RfAt rb gb base tv { s with csrs := s.csrs.set k n2 } w2) := Lib.hid (M1.out.set u2 b2 rfl rfl)
        have R2 := Lib.hid (u2.keep R1.out (by simp; omega))
        have I2 := Lib.hid (u2.keep I1.out (by simp; omega))
        have V2 := Lib.hid ((U1.out.mono (T := [rb]) (by simp)).trans u2)
        clear b2 u2 z2 M1 R1 I1 U1 i0 i1 i2 ck
        have hc2 : (s.csrs.set k n2).length = 5 := by rw [List.length_set]; exact hc
        go_wp2_with (first
          | go_skip
          | ((with_reducible refine at_st 76 ?_); refine L_store_int 36 (.tmp 76) (.tmp 73) rfl (by kernel_rfl) rb 0 rfl (mcells { s with csrs := s.csrs.set k n2 } gb tv) 55 M2.out.cell .u32 (n4 : Int) rfl info_u1 (by rw [mcells_len { s with csrs := s.csrs.set k n2 } gb tv hr hc2]; decide) ?_))
        intro w3 b3 u3 z3
        rw [mset_pc] at b3
        have M3 : Hid (RfAt rb gb base tv { s with csrs := s.csrs.set k n2, pc := n4 } w3) := Lib.hid (M2.out.set u3 b3 rfl rfl)
        have R3 := Lib.hid (u3.keep R2.out (by simp; omega))
        have I3 := Lib.hid (u3.keep I2.out (by simp; omega))
        have V3 := Lib.hid (V2.out.trans u3)
        clear b3 u3 z3 M2 R2 I2 V2
        have i1 : w3.cell? ⟨zz.heap.size, 1, none⟩ = some (.int .i64 (rd : Int)) := by rw [cells_of I3.out]; rfl
        go_wp2_with (fail)
        refine (rput_calls rb gb base tv { s with csrs := s.csrs.set k n2, pc := n4 } _ M3.out hr hc2 s.pc rd old hd).mono ?_
        rintro e w4 ⟨rfl, m4, u4⟩
        have M4 := Lib.hid m4
        have R4 := Lib.hid (u4.keep R3.out (by simp; omega))
        have V4 := Lib.hid (V3.out.trans u4)
        clear m4 u4 M3 R3 I3 V3 i1
        go_wp2_with (first
          | go_skip
          | ((with_reducible refine at_st 8 ?_); refine L_store_row 38 (.tmp 8) (.tmp 83) rfl (by kernel_rfl) (zz.heap.size + 1) 0 rfl (retL ⟨0, 0, 0, false, 0, 0, 0⟩) 38 R4.out (retL (writeR s.pc rd old)).toArray rfl 7 info_ret rfl (by decide) (retL_one _) ?_))
        intro wA bA uA zA
        rw [spl_all (by rfl)] at bA
        go_wp2_with (fail)
        refine bodyPost_ret (results_cell_row rfl _ _ (zz.heap.size + 1) 38 (retL (writeR s.pc rd old)).toArray _ _ rfl bA Tryz.underlying38 rfl info_ret) rfl ⟨by rw [EX.out], ?_⟩
        rw [EX.out, applyM_write]
        exact ⟨M4.out.upd uA (by simp; omega) (by simp; omega) (fun g hg => by have := hown g hg; simp; omega), V4.out.then uA (fun x hx hlt => by simp at hx; omega)⟩
      · have EX : Hid (X = ⟨writeR s.pc rd old, n4, s.csrs.set k n1⟩) := Lib.hid (by rw [HX.out, HN.out, if_neg (by omega)])
        have f0 : ((k : Int) == 0) = false := by rw [beq_eq_false_iff_ne]; omega
        have f2 : ((k : Int) == 2) = false := by rw [beq_eq_false_iff_ne]; omega
        clear hk0 hk2 HX HN hh
        go_wp2_with (first
          | go_skip
          | ((with_reducible refine at_st 70 ?_); refine L_store_int 36 (.tmp 70) (.tmp 66) rfl (by kernel_rfl) rb (33 + k) rfl (mcells s gb tv) 55 M1.out.cell .u32 ((n1 : Nat) : Int) rfl info_u1 (by rw [mcells_len s gb tv hr hc]; omega) ?_))
        intro w2 b2 u2 z2
        rw [mset_csr s gb tv k n1 hr hc hk] at b2
        have M2 : Hid (RfAt rb gb base tv { s with csrs := s.csrs.set k n1 } w2) := Lib.hid (M1.out.set u2 b2 rfl rfl)
        have R2 := Lib.hid (u2.keep R1.out (by simp; omega))
        have I2 := Lib.hid (u2.keep I1.out (by simp; omega))
        have V2 := Lib.hid ((U1.out.mono (T := [rb]) (by simp)).trans u2)
        clear b2 u2 z2 M1 R1 I1 U1 i0 i1 i2 ck
        have hc2 : (s.csrs.set k n1).length = 5 := by rw [List.length_set]; exact hc
        go_wp2_with (first
          | go_skip
          | ((with_reducible refine at_st 76 ?_); refine L_store_int 36 (.tmp 76) (.tmp 73) rfl (by kernel_rfl) rb 0 rfl (mcells { s with csrs := s.csrs.set k n1 } gb tv) 55 M2.out.cell .u32 (n4 : Int) rfl info_u1 (by rw [mcells_len { s with csrs := s.csrs.set k n1 } gb tv hr hc2]; decide) ?_))
        intro w3 b3 u3 z3
        rw [mset_pc] at b3
        have M3 : Hid (RfAt rb gb base tv { s with csrs := s.csrs.set k n1, pc := n4 } w3) := Lib.hid (M2.out.set u3 b3 rfl rfl)
        have R3 := Lib.hid (u3.keep R2.out (by simp; omega))
        have I3 := Lib.hid (u3.keep I2.out (by simp; omega))
        have V3 := Lib.hid (V2.out.trans u3)
        clear b3 u3 z3 M2 R2 I2 V2
        have i1 : w3.cell? ⟨zz.heap.size, 1, none⟩ = some (.int .i64 (rd : Int)) := by rw [cells_of I3.out]; rfl
        go_wp2_with (fail)
        refine (rput_calls rb gb base tv { s with csrs := s.csrs.set k n1, pc := n4 } _ M3.out hr hc2 s.pc rd old hd).mono ?_
        rintro e w4 ⟨rfl, m4, u4⟩
        have M4 := Lib.hid m4
        have R4 := Lib.hid (u4.keep R3.out (by simp; omega))
        have V4 := Lib.hid (V3.out.trans u4)
        clear m4 u4 M3 R3 I3 V3 i1
        go_wp2_with (first
          | go_skip
          | ((with_reducible refine at_st 8 ?_); refine L_store_row 38 (.tmp 8) (.tmp 83) rfl (by kernel_rfl) (zz.heap.size + 1) 0 rfl (retL ⟨0, 0, 0, false, 0, 0, 0⟩) 38 R4.out (retL (writeR s.pc rd old)).toArray rfl 7 info_ret rfl (by decide) (retL_one _) ?_))
        intro wA bA uA zA
        rw [spl_all (by rfl)] at bA
        go_wp2_with (fail)
        refine bodyPost_ret (results_cell_row rfl _ _ (zz.heap.size + 1) 38 (retL (writeR s.pc rd old)).toArray _ _ rfl bA Tryz.underlying38 rfl info_ret) rfl ⟨by rw [EX.out], ?_⟩
        rw [EX.out, applyM_write]
        exact ⟨M4.out.upd uA (by simp; omega) (by simp; omega) (fun g hg => by have := hown g hg; simp; omega), V4.out.then uA (fun x hx hlt => by simp at hx; omega)⟩
    · have HN : Hid (csrF 53 r1 a old = r1) := Lib.hid rfl
      have hn1 := r1l
      generalize r1 = n1 at *
      have hh := high2 n1 hn1
      rcases (by omega : k = 0 ∨ k = 2 ∨ (k ≠ 0 ∧ k ≠ 2)) with hk0 | hk2 | ⟨hk0, hk2⟩
      · have EX : Hid (X = ⟨writeR s.pc rd old, n4, s.csrs.set k (n1 / 4 * 4)⟩) := Lib.hid (by rw [HX.out, HN.out, if_pos (Or.inl hk0)]; rfl)
        have f0 : ((k : Int) == 0) = true := by rw [beq_iff_eq]; omega
        clear hk0 HX HN
        generalize n1 / 4 * 4 = n2 at *
        go_wp2_with (first
          | go_skip
          | ((with_reducible refine at_st 70 ?_); refine L_store_int 36 (.tmp 70) (.tmp 66) rfl (by kernel_rfl) rb (33 + k) rfl (mcells s gb tv) 55 M1.out.cell .u32 ((n2 : Nat) : Int) rfl info_u1 (by rw [mcells_len s gb tv hr hc]; omega) ?_))
        intro w2 b2 u2 z2
        rw [mset_csr s gb tv k n2 hr hc hk] at b2
        have M2 : Hid (RfAt rb gb base tv { s with csrs := s.csrs.set k n2 } w2) := Lib.hid (M1.out.set u2 b2 rfl rfl)
        have R2 := Lib.hid (u2.keep R1.out (by simp; omega))
        have I2 := Lib.hid (u2.keep I1.out (by simp; omega))
        have V2 := Lib.hid ((U1.out.mono (T := [rb]) (by simp)).trans u2)
        clear b2 u2 z2 M1 R1 I1 U1 i0 i1 i2 ck
        have hc2 : (s.csrs.set k n2).length = 5 := by rw [List.length_set]; exact hc
        go_wp2_with (first
          | go_skip
          | ((with_reducible refine at_st 76 ?_); refine L_store_int 36 (.tmp 76) (.tmp 73) rfl (by kernel_rfl) rb 0 rfl (mcells { s with csrs := s.csrs.set k n2 } gb tv) 55 M2.out.cell .u32 (n4 : Int) rfl info_u1 (by rw [mcells_len { s with csrs := s.csrs.set k n2 } gb tv hr hc2]; decide) ?_))
        intro w3 b3 u3 z3
        rw [mset_pc] at b3
        have M3 : Hid (RfAt rb gb base tv { s with csrs := s.csrs.set k n2, pc := n4 } w3) := Lib.hid (M2.out.set u3 b3 rfl rfl)
        have R3 := Lib.hid (u3.keep R2.out (by simp; omega))
        have I3 := Lib.hid (u3.keep I2.out (by simp; omega))
        have V3 := Lib.hid (V2.out.trans u3)
        clear b3 u3 z3 M2 R2 I2 V2
        have i1 : w3.cell? ⟨zz.heap.size, 1, none⟩ = some (.int .i64 (rd : Int)) := by rw [cells_of I3.out]; rfl
        go_wp2_with (fail)
        refine (rput_calls rb gb base tv { s with csrs := s.csrs.set k n2, pc := n4 } _ M3.out hr hc2 s.pc rd old hd).mono ?_
        rintro e w4 ⟨rfl, m4, u4⟩
        have M4 := Lib.hid m4
        have R4 := Lib.hid (u4.keep R3.out (by simp; omega))
        have V4 := Lib.hid (V3.out.trans u4)
        clear m4 u4 M3 R3 I3 V3 i1
        go_wp2_with (first
          | go_skip
          | ((with_reducible refine at_st 8 ?_); refine L_store_row 38 (.tmp 8) (.tmp 83) rfl (by kernel_rfl) (zz.heap.size + 1) 0 rfl (retL ⟨0, 0, 0, false, 0, 0, 0⟩) 38 R4.out (retL (writeR s.pc rd old)).toArray rfl 7 info_ret rfl (by decide) (retL_one _) ?_))
        intro wA bA uA zA
        rw [spl_all (by rfl)] at bA
        go_wp2_with (fail)
        refine bodyPost_ret (results_cell_row rfl _ _ (zz.heap.size + 1) 38 (retL (writeR s.pc rd old)).toArray _ _ rfl bA Tryz.underlying38 rfl info_ret) rfl ⟨by rw [EX.out], ?_⟩
        rw [EX.out, applyM_write]
        exact ⟨M4.out.upd uA (by simp; omega) (by simp; omega) (fun g hg => by have := hown g hg; simp; omega), V4.out.then uA (fun x hx hlt => by simp at hx; omega)⟩
      · have EX : Hid (X = ⟨writeR s.pc rd old, n4, s.csrs.set k (n1 / 4 * 4)⟩) := Lib.hid (by rw [HX.out, HN.out, if_pos (Or.inr hk2)]; rfl)
        have f0 : ((k : Int) == 0) = false := by rw [beq_eq_false_iff_ne]; omega
        have f2 : ((k : Int) == 2) = true := by rw [beq_iff_eq]; omega
        clear hk2 HX HN
        generalize n1 / 4 * 4 = n2 at *
        go_wp2_with (first
          | go_skip
          | ((with_reducible refine at_st 70 ?_); refine L_store_int 36 (.tmp 70) (.tmp 66) rfl (by kernel_rfl) rb (33 + k) rfl (mcells s gb tv) 55 M1.out.cell .u32 ((n2 : Nat) : Int) rfl info_u1 (by rw [mcells_len s gb tv hr hc]; omega) ?_))
        intro w2 b2 u2 z2
        rw [mset_csr s gb tv k n2 hr hc hk] at b2
        have M2 : Hid (RfAt rb gb base tv { s with csrs := s.csrs.set k n2 } w2) := Lib.hid (M1.out.set u2 b2 rfl rfl)
        have R2 := Lib.hid (u2.keep R1.out (by simp; omega))
        have I2 := Lib.hid (u2.keep I1.out (by simp; omega))
        have V2 := Lib.hid ((U1.out.mono (T := [rb]) (by simp)).trans u2)
        clear b2 u2 z2 M1 R1 I1 U1 i0 i1 i2 ck
        have hc2 : (s.csrs.set k n2).length = 5 := by rw [List.length_set]; exact hc
        go_wp2_with (first
          | go_skip
          | ((with_reducible refine at_st 76 ?_); refine L_store_int 36 (.tmp 76) (.tmp 73) rfl (by kernel_rfl) rb 0 rfl (mcells { s with csrs := s.csrs.set k n2 } gb tv) 55 M2.out.cell .u32 (n4 : Int) rfl info_u1 (by rw [mcells_len { s with csrs := s.csrs.set k n2 } gb tv hr hc2]; decide) ?_))
        intro w3 b3 u3 z3
        rw [mset_pc] at b3
        have M3 : Hid (RfAt rb gb base tv { s with csrs := s.csrs.set k n2, pc := n4 } w3) := Lib.hid (M2.out.set u3 b3 rfl rfl)
        have R3 := Lib.hid (u3.keep R2.out (by simp; omega))
        have I3 := Lib.hid (u3.keep I2.out (by simp; omega))
        have V3 := Lib.hid (V2.out.trans u3)
        clear b3 u3 z3 M2 R2 I2 V2
        have i1 : w3.cell? ⟨zz.heap.size, 1, none⟩ = some (.int .i64 (rd : Int)) := by rw [cells_of I3.out]; rfl
        go_wp2_with (fail)
        refine (rput_calls rb gb base tv { s with csrs := s.csrs.set k n2, pc := n4 } _ M3.out hr hc2 s.pc rd old hd).mono ?_
        rintro e w4 ⟨rfl, m4, u4⟩
        have M4 := Lib.hid m4
        have R4 := Lib.hid (u4.keep R3.out (by simp; omega))
        have V4 := Lib.hid (V3.out.trans u4)
        clear m4 u4 M3 R3 I3 V3 i1
        go_wp2_with (first
          | go_skip
          | ((with_reducible refine at_st 8 ?_); refine L_store_row 38 (.tmp 8) (.tmp 83) rfl (by kernel_rfl) (zz.heap.size + 1) 0 rfl (retL ⟨0, 0, 0, false, 0, 0, 0⟩) 38 R4.out (retL (writeR s.pc rd old)).toArray rfl 7 info_ret rfl (by decide) (retL_one _) ?_))
        intro wA bA uA zA
        rw [spl_all (by rfl)] at bA
        go_wp2_with (fail)
        refine bodyPost_ret (results_cell_row rfl _ _ (zz.heap.size + 1) 38 (retL (writeR s.pc rd old)).toArray _ _ rfl bA Tryz.underlying38 rfl info_ret) rfl ⟨by rw [EX.out], ?_⟩
        rw [EX.out, applyM_write]
        exact ⟨M4.out.upd uA (by simp; omega) (by simp; omega) (fun g hg => by have := hown g hg; simp; omega), V4.out.then uA (fun x hx hlt => by simp at hx; omega)⟩
      · have EX : Hid (X = ⟨writeR s.pc rd old, n4, s.csrs.set k n1⟩) := Lib.hid (by rw [HX.out, HN.out, if_neg (by omega)])
        have f0 : ((k : Int) == 0) = false := by rw [beq_eq_false_iff_ne]; omega
        have f2 : ((k : Int) == 2) = false := by rw [beq_eq_false_iff_ne]; omega
        clear hk0 hk2 HX HN hh
        go_wp2_with (first
          | go_skip
          | ((with_reducible refine at_st 70 ?_); refine L_store_int 36 (.tmp 70) (.tmp 66) rfl (by kernel_rfl) rb (33 + k) rfl (mcells s gb tv) 55 M1.out.cell .u32 ((n1 : Nat) : Int) rfl info_u1 (by rw [mcells_len s gb tv hr hc]; omega) ?_))
        intro w2 b2 u2 z2
        rw [mset_csr s gb tv k n1 hr hc hk] at b2
        have M2 : Hid (RfAt rb gb base tv { s with csrs := s.csrs.set k n1 } w2) := Lib.hid (M1.out.set u2 b2 rfl rfl)
        have R2 := Lib.hid (u2.keep R1.out (by simp; omega))
        have I2 := Lib.hid (u2.keep I1.out (by simp; omega))
        have V2 := Lib.hid ((U1.out.mono (T := [rb]) (by simp)).trans u2)
        clear b2 u2 z2 M1 R1 I1 U1 i0 i1 i2 ck
        have hc2 : (s.csrs.set k n1).length = 5 := by rw [List.length_set]; exact hc
        go_wp2_with (first
          | go_skip
          | ((with_reducible refine at_st 76 ?_); refine L_store_int 36 (.tmp 76) (.tmp 73) rfl (by kernel_rfl) rb 0 rfl (mcells { s with csrs := s.csrs.set k n1 } gb tv) 55 M2.out.cell .u32 (n4 : Int) rfl info_u1 (by rw [mcells_len { s with csrs := s.csrs.set k n1 } gb tv hr hc2]; decide) ?_))
        intro w3 b3 u3 z3
        rw [mset_pc] at b3
        have M3 : Hid (RfAt rb gb base tv { s with csrs := s.csrs.set k n1, pc := n4 } w3) := Lib.hid (M2.out.set u3 b3 rfl rfl)
        have R3 := Lib.hid (u3.keep R2.out (by simp; omega))
        have I3 := Lib.hid (u3.keep I2.out (by simp; omega))
        have V3 := Lib.hid (V2.out.trans u3)
        clear b3 u3 z3 M2 R2 I2 V2
        have i1 : w3.cell? ⟨zz.heap.size, 1, none⟩ = some (.int .i64 (rd : Int)) := by rw [cells_of I3.out]; rfl
        go_wp2_with (fail)
        refine (rput_calls rb gb base tv { s with csrs := s.csrs.set k n1, pc := n4 } _ M3.out hr hc2 s.pc rd old hd).mono ?_
        rintro e w4 ⟨rfl, m4, u4⟩
        have M4 := Lib.hid m4
        have R4 := Lib.hid (u4.keep R3.out (by simp; omega))
        have V4 := Lib.hid (V3.out.trans u4)
        clear m4 u4 M3 R3 I3 V3 i1
        go_wp2_with (first
          | go_skip
          | ((with_reducible refine at_st 8 ?_); refine L_store_row 38 (.tmp 8) (.tmp 83) rfl (by kernel_rfl) (zz.heap.size + 1) 0 rfl (retL ⟨0, 0, 0, false, 0, 0, 0⟩) 38 R4.out (retL (writeR s.pc rd old)).toArray rfl 7 info_ret rfl (by decide) (retL_one _) ?_))
        intro wA bA uA zA
        rw [spl_all (by rfl)] at bA
        go_wp2_with (fail)
        refine bodyPost_ret (results_cell_row rfl _ _ (zz.heap.size + 1) 38 (retL (writeR s.pc rd old)).toArray _ _ rfl bA Tryz.underlying38 rfl info_ret) rfl ⟨by rw [EX.out], ?_⟩
        rw [EX.out, applyM_write]
        exact ⟨M4.out.upd uA (by simp; omega) (by simp; omega) (fun g hg => by have := hown g hg; simp; omega), V4.out.then uA (fun x hx hlt => by simp at hx; omega)⟩
    · have HN : Hid (csrF 54 r1 a old = old ||| r1) := Lib.hid rfl
      have hn1 := Nat.or_lt_two_pow hol r1l
      have hb := or32 old r1 hol r1l
      generalize old ||| r1 = n1 at *
      have hh := high2 n1 hn1
      rcases (by omega : k = 0 ∨ k = 2 ∨ (k ≠ 0 ∧ k ≠ 2)) with hk0 | hk2 | ⟨hk0, hk2⟩
      · have EX : Hid (X = ⟨writeR s.pc rd old, n4, s.csrs.set k (n1 / 4 * 4)⟩) := Lib.hid (by rw [HX.out, HN.out, if_pos (Or.inl hk0)]; rfl)
        have f0 : ((k : Int) == 0) = true := by rw [beq_iff_eq]; omega
        clear hk0 HX HN
        generalize n1 / 4 * 4 = n2 at *
        go_wp2_with (first
          | go_skip
          | ((with_reducible refine at_st 70 ?_); refine L_store_int 36 (.tmp 70) (.tmp 66) rfl (by kernel_rfl) rb (33 + k) rfl (mcells s gb tv) 55 M1.out.cell .u32 ((n2 : Nat) : Int) rfl info_u1 (by rw [mcells_len s gb tv hr hc]; omega) ?_))
        intro w2 b2 u2 z2
        rw [mset_csr s gb tv k n2 hr hc hk] at b2
        have M2 : Hid (RfAt rb gb base tv { s with csrs := s.csrs.set k n2 } w2) := Lib.hid (M1.out.set u2 b2 rfl rfl)
        have R2 := Lib.hid (u2.keep R1.out (by simp; omega))
        have I2 := Lib.hid (u2.keep I1.out (by simp; omega))
        have V2 := Lib.hid ((U1.out.mono (T := [rb]) (by simp)).trans u2)
        clear b2 u2 z2 M1 R1 I1 U1 i0 i1 i2 ck
        have hc2 : (s.csrs.set k n2).length = 5 := by rw [List.length_set]; exact hc
        go_wp2_with (first
          | go_skip
          | ((with_reducible refine at_st 76 ?_); refine L_store_int 36 (.tmp 76) (.tmp 73) rfl (by kernel_rfl) rb 0 rfl (mcells { s with csrs := s.csrs.set k n2 } gb tv) 55 M2.out.cell .u32 (n4 : Int) rfl info_u1 (by rw [mcells_len { s with csrs := s.csrs.set k n2 } gb tv hr hc2]; decide) ?_))
        intro w3 b3 u3 z3
        rw [mset_pc] at b3
        have M3 : Hid (RfAt rb gb base tv { s with csrs := s.csrs.set k n2, pc := n4 } w3) := Lib.hid (M2.out.set u3 b3 rfl rfl)
        have R3 := Lib.hid (u3.keep R2.out (by simp; omega))
        have I3 := Lib.hid (u3.keep I2.out (by simp; omega))
        have V3 := Lib.hid (V2.out.trans u3)
        clear b3 u3 z3 M2 R2 I2 V2
        have i1 : w3.cell? ⟨zz.heap.size, 1, none⟩ = some (.int .i64 (rd : Int)) := by rw [cells_of I3.out]; rfl
        go_wp2_with (fail)
        refine (rput_calls rb gb base tv { s with csrs := s.csrs.set k n2, pc := n4 } _ M3.out hr hc2 s.pc rd old hd).mono ?_
        rintro e w4 ⟨rfl, m4, u4⟩
        have M4 := Lib.hid m4
        have R4 := Lib.hid (u4.keep R3.out (by simp; omega))
        have V4 := Lib.hid (V3.out.trans u4)
        clear m4 u4 M3 R3 I3 V3 i1
        go_wp2_with (first
          | go_skip
          | ((with_reducible refine at_st 8 ?_); refine L_store_row 38 (.tmp 8) (.tmp 83) rfl (by kernel_rfl) (zz.heap.size + 1) 0 rfl (retL ⟨0, 0, 0, false, 0, 0, 0⟩) 38 R4.out (retL (writeR s.pc rd old)).toArray rfl 7 info_ret rfl (by decide) (retL_one _) ?_))
        intro wA bA uA zA
        rw [spl_all (by rfl)] at bA
        go_wp2_with (fail)
        refine bodyPost_ret (results_cell_row rfl _ _ (zz.heap.size + 1) 38 (retL (writeR s.pc rd old)).toArray _ _ rfl bA Tryz.underlying38 rfl info_ret) rfl ⟨by rw [EX.out], ?_⟩
        rw [EX.out, applyM_write]
        exact ⟨M4.out.upd uA (by simp; omega) (by simp; omega) (fun g hg => by have := hown g hg; simp; omega), V4.out.then uA (fun x hx hlt => by simp at hx; omega)⟩
      · have EX : Hid (X = ⟨writeR s.pc rd old, n4, s.csrs.set k (n1 / 4 * 4)⟩) := Lib.hid (by rw [HX.out, HN.out, if_pos (Or.inr hk2)]; rfl)
        have f0 : ((k : Int) == 0) = false := by rw [beq_eq_false_iff_ne]; omega
        have f2 : ((k : Int) == 2) = true := by rw [beq_iff_eq]; omega
        clear hk2 HX HN
        generalize n1 / 4 * 4 = n2 at *
        go_wp2_with (first
          | go_skip
          | ((with_reducible refine at_st 70 ?_); refine L_store_int 36 (.tmp 70) (.tmp 66) rfl (by kernel_rfl) rb (33 + k) rfl (mcells s gb tv) 55 M1.out.cell .u32 ((n2 : Nat) : Int) rfl info_u1 (by rw [mcells_len s gb tv hr hc]; omega) ?_))
        intro w2 b2 u2 z2
        rw [mset_csr s gb tv k n2 hr hc hk] at b2
        have M2 : Hid (RfAt rb gb base tv { s with csrs := s.csrs.set k n2 } w2) := Lib.hid (M1.out.set u2 b2 rfl rfl)
        have R2 := Lib.hid (u2.keep R1.out (by simp; omega))
        have I2 := Lib.hid (u2.keep I1.out (by simp; omega))
        have V2 := Lib.hid ((U1.out.mono (T := [rb]) (by simp)).trans u2)
        clear b2 u2 z2 M1 R1 I1 U1 i0 i1 i2 ck
        have hc2 : (s.csrs.set k n2).length = 5 := by rw [List.length_set]; exact hc
        go_wp2_with (first
          | go_skip
          | ((with_reducible refine at_st 76 ?_); refine L_store_int 36 (.tmp 76) (.tmp 73) rfl (by kernel_rfl) rb 0 rfl (mcells { s with csrs := s.csrs.set k n2 } gb tv) 55 M2.out.cell .u32 (n4 : Int) rfl info_u1 (by rw [mcells_len { s with csrs := s.csrs.set k n2 } gb tv hr hc2]; decide) ?_))
        intro w3 b3 u3 z3
        rw [mset_pc] at b3
        have M3 : Hid (RfAt rb gb base tv { s with csrs := s.csrs.set k n2, pc := n4 } w3) := Lib.hid (M2.out.set u3 b3 rfl rfl)
        have R3 := Lib.hid (u3.keep R2.out (by simp; omega))
        have I3 := Lib.hid (u3.keep I2.out (by simp; omega))
        have V3 := Lib.hid (V2.out.trans u3)
        clear b3 u3 z3 M2 R2 I2 V2
        have i1 : w3.cell? ⟨zz.heap.size, 1, none⟩ = some (.int .i64 (rd : Int)) := by rw [cells_of I3.out]; rfl
        go_wp2_with (fail)
        refine (rput_calls rb gb base tv { s with csrs := s.csrs.set k n2, pc := n4 } _ M3.out hr hc2 s.pc rd old hd).mono ?_
        rintro e w4 ⟨rfl, m4, u4⟩
        have M4 := Lib.hid m4
        have R4 := Lib.hid (u4.keep R3.out (by simp; omega))
        have V4 := Lib.hid (V3.out.trans u4)
        clear m4 u4 M3 R3 I3 V3 i1
        go_wp2_with (first
          | go_skip
          | ((with_reducible refine at_st 8 ?_); refine L_store_row 38 (.tmp 8) (.tmp 83) rfl (by kernel_rfl) (zz.heap.size + 1) 0 rfl (retL ⟨0, 0, 0, false, 0, 0, 0⟩) 38 R4.out (retL (writeR s.pc rd old)).toArray rfl 7 info_ret rfl (by decide) (retL_one _) ?_))
        intro wA bA uA zA
        rw [spl_all (by rfl)] at bA
        go_wp2_with (fail)
        refine bodyPost_ret (results_cell_row rfl _ _ (zz.heap.size + 1) 38 (retL (writeR s.pc rd old)).toArray _ _ rfl bA Tryz.underlying38 rfl info_ret) rfl ⟨by rw [EX.out], ?_⟩
        rw [EX.out, applyM_write]
        exact ⟨M4.out.upd uA (by simp; omega) (by simp; omega) (fun g hg => by have := hown g hg; simp; omega), V4.out.then uA (fun x hx hlt => by simp at hx; omega)⟩
      · have EX : Hid (X = ⟨writeR s.pc rd old, n4, s.csrs.set k n1⟩) := Lib.hid (by rw [HX.out, HN.out, if_neg (by omega)])
        have f0 : ((k : Int) == 0) = false := by rw [beq_eq_false_iff_ne]; omega
        have f2 : ((k : Int) == 2) = false := by rw [beq_eq_false_iff_ne]; omega
        clear hk0 hk2 HX HN hh
        go_wp2_with (first
          | go_skip
          | ((with_reducible refine at_st 70 ?_); refine L_store_int 36 (.tmp 70) (.tmp 66) rfl (by kernel_rfl) rb (33 + k) rfl (mcells s gb tv) 55 M1.out.cell .u32 ((n1 : Nat) : Int) rfl info_u1 (by rw [mcells_len s gb tv hr hc]; omega) ?_))
        intro w2 b2 u2 z2
        rw [mset_csr s gb tv k n1 hr hc hk] at b2
        have M2 : Hid (RfAt rb gb base tv { s with csrs := s.csrs.set k n1 } w2) := Lib.hid (M1.out.set u2 b2 rfl rfl)
        have R2 := Lib.hid (u2.keep R1.out (by simp; omega))
        have I2 := Lib.hid (u2.keep I1.out (by simp; omega))
        have V2 := Lib.hid ((U1.out.mono (T := [rb]) (by simp)).trans u2)
        clear b2 u2 z2 M1 R1 I1 U1 i0 i1 i2 ck
        have hc2 : (s.csrs.set k n1).length = 5 := by rw [List.length_set]; exact hc
        go_wp2_with (first
          | go_skip
          | ((with_reducible refine at_st 76 ?_); refine L_store_int 36 (.tmp 76) (.tmp 73) rfl (by kernel_rfl) rb 0 rfl (mcells { s with csrs := s.csrs.set k n1 } gb tv) 55 M2.out.cell .u32 (n4 : Int) rfl info_u1 (by rw [mcells_len { s with csrs := s.csrs.set k n1 } gb tv hr hc2]; decide) ?_))
        intro w3 b3 u3 z3
        rw [mset_pc] at b3
        have M3 : Hid (RfAt rb gb base tv { s with csrs := s.csrs.set k n1, pc := n4 } w3) := Lib.hid (M2.out.set u3 b3 rfl rfl)
        have R3 := Lib.hid (u3.keep R2.out (by simp; omega))
        have I3 := Lib.hid (u3.keep I2.out (by simp; omega))
        have V3 := Lib.hid (V2.out.trans u3)
        clear b3 u3 z3 M2 R2 I2 V2
        have i1 : w3.cell? ⟨zz.heap.size, 1, none⟩ = some (.int .i64 (rd : Int)) := by rw [cells_of I3.out]; rfl
        go_wp2_with (fail)
        refine (rput_calls rb gb base tv { s with csrs := s.csrs.set k n1, pc := n4 } _ M3.out hr hc2 s.pc rd old hd).mono ?_
        rintro e w4 ⟨rfl, m4, u4⟩
        have M4 := Lib.hid m4
        have R4 := Lib.hid (u4.keep R3.out (by simp; omega))
        have V4 := Lib.hid (V3.out.trans u4)
        clear m4 u4 M3 R3 I3 V3 i1
        go_wp2_with (first
          | go_skip
          | ((with_reducible refine at_st 8 ?_); refine L_store_row 38 (.tmp 8) (.tmp 83) rfl (by kernel_rfl) (zz.heap.size + 1) 0 rfl (retL ⟨0, 0, 0, false, 0, 0, 0⟩) 38 R4.out (retL (writeR s.pc rd old)).toArray rfl 7 info_ret rfl (by decide) (retL_one _) ?_))
        intro wA bA uA zA
        rw [spl_all (by rfl)] at bA
        go_wp2_with (fail)
        refine bodyPost_ret (results_cell_row rfl _ _ (zz.heap.size + 1) 38 (retL (writeR s.pc rd old)).toArray _ _ rfl bA Tryz.underlying38 rfl info_ret) rfl ⟨by rw [EX.out], ?_⟩
        rw [EX.out, applyM_write]
        exact ⟨M4.out.upd uA (by simp; omega) (by simp; omega) (fun g hg => by have := hown g hg; simp; omega), V4.out.then uA (fun x hx hlt => by simp at hx; omega)⟩
    · have HN : Hid (csrF 55 r1 a old = old &&& (4294967295 ^^^ r1)) := Lib.hid rfl
      have hn1 := Nat.lt_of_le_of_lt (Nat.and_le_left (n := old) (m := (4294967295 ^^^ r1))) hol
      have hb := andnot32 old r1 hol r1l
      generalize old &&& (4294967295 ^^^ r1) = n1 at *
      have hh := high2 n1 hn1
      rcases (by omega : k = 0 ∨ k = 2 ∨ (k ≠ 0 ∧ k ≠ 2)) with hk0 | hk2 | ⟨hk0, hk2⟩
      · have EX : Hid (X = ⟨writeR s.pc rd old, n4, s.csrs.set k (n1 / 4 * 4)⟩) := Lib.hid (by rw [HX.out, HN.out, if_pos (Or.inl hk0)]; rfl)
        have f0 : ((k : Int) == 0) = true := by rw [beq_iff_eq]; omega
        clear hk0 HX HN
        generalize n1 / 4 * 4 = n2 at *
        go_wp2_with (first
          | go_skip
          | ((with_reducible refine at_st 70 ?_); refine L_store_int 36 (.tmp 70) (.tmp 66) rfl (by kernel_rfl) rb (33 + k) rfl (mcells s gb tv) 55 M1.out.cell .u32 ((n2 : Nat) : Int) rfl info_u1 (by rw [mcells_len s gb tv hr hc]; omega) ?_))
        intro w2 b2 u2 z2
        rw [mset_csr s gb tv k n2 hr hc hk] at b2
        have M2 : Hid (RfAt rb gb base tv { s with csrs := s.csrs.set k n2 } w2) := Lib.hid (M1.out.set u2 b2 rfl rfl)
        have R2 := Lib.hid (u2.keep R1.out (by simp; omega))
        have I2 := Lib.hid (u2.keep I1.out (by simp; omega))
        have V2 := Lib.hid ((U1.out.mono (T := [rb]) (by simp)).trans u2)
        clear b2 u2 z2 M1 R1 I1 U1 i0 i1 i2 ck
        have hc2 : (s.csrs.set k n2).length = 5 := by rw [List.length_set]; exact hc
        go_wp2_with (first
          | go_skip
          | ((with_reducible refine at_st 76 ?_); refine L_store_int 36 (.tmp 76) (.tmp 73) rfl (by kernel_rfl) rb 0 rfl (mcells { s with csrs := s.csrs.set k n2 } gb tv) 55 M2.out.cell .u32 (n4 : Int) rfl info_u1 (by rw [mcells_len { s with csrs := s.csrs.set k n2 } gb tv hr hc2]; decide) ?_))
        intro w3 b3 u3 z3
        rw [mset_pc] at b3
        have M3 : Hid (RfAt rb gb base tv { s with csrs := s.csrs.set k n2, pc := n4 } w3) := Lib.hid (M2.out.set u3 b3 rfl rfl)
        have R3 := Lib.hid (u3.keep R2.out (by simp; omega))
        have I3 := Lib.hid (u3.keep I2.out (by simp; omega))
        have V3 := Lib.hid (V2.out.trans u3)
        clear b3 u3 z3 M2 R2 I2 V2
        have i1 : w3.cell? ⟨zz.heap.size, 1, none⟩ = some (.int .i64 (rd : Int)) := by rw [cells_of I3.out]; rfl
        go_wp2_with (fail)
        refine (rput_calls rb gb base tv { s with csrs := s.csrs.set k n2, pc := n4 } _ M3.out hr hc2 s.pc rd old hd).mono ?_
        rintro e w4 ⟨rfl, m4, u4⟩
        have M4 := Lib.hid m4
        have R4 := Lib.hid (u4.keep R3.out (by simp; omega))
        have V4 := Lib.hid (V3.out.trans u4)
        clear m4 u4 M3 R3 I3 V3 i1
        go_wp2_with (first
          | go_skip
          | ((with_reducible refine at_st 8 ?_); refine L_store_row 38 (.tmp 8) (.tmp 83) rfl (by kernel_rfl) (zz.heap.size + 1) 0 rfl (retL ⟨0, 0, 0, false, 0, 0, 0⟩) 38 R4.out (retL (writeR s.pc rd old)).toArray rfl 7 info_ret rfl (by decide) (retL_one _) ?_))
        intro wA bA uA zA
        rw [spl_all (by rfl)] at bA
        go_wp2_with (fail)
        refine bodyPost_ret (results_cell_row rfl _ _ (zz.heap.size + 1) 38 (retL (writeR s.pc rd old)).toArray _ _ rfl bA Tryz.underlying38 rfl info_ret) rfl ⟨by rw [EX.out], ?_⟩
        rw [EX.out, applyM_write]
        exact ⟨M4.out.upd uA (by simp; omega) (by simp; omega) (fun g hg => by have := hown g hg; simp; omega), V4.out.then uA (fun x hx hlt => by simp at hx; omega)⟩
      · have EX : Hid (X = ⟨writeR s.pc rd old, n4, s.csrs.set k (n1 / 4 * 4)⟩) := Lib.hid (by rw [HX.out, HN.out, if_pos (Or.inr hk2)]; rfl)
        have f0 : ((k : Int) == 0) = false := by rw [beq_eq_false_iff_ne]; omega
        have f2 : ((k : Int) == 2) = true := by rw [beq_iff_eq]; omega
        clear hk2 HX HN
        generalize n1 / 4 * 4 = n2 at *
        go_wp2_with (first
          | go_skip
          | ((with_reducible refine at_st 70 ?_); refine L_store_int 36 (.tmp 70) (.tmp 66) rfl (by kernel_rfl) rb (33 + k) rfl (mcells s gb tv) 55 M1.out.cell .u32 ((n2 : Nat) : Int) rfl info_u1 (by rw [mcells_len s gb tv hr hc]; omega) ?_))
        intro w2 b2 u2 z2
        rw [mset_csr s gb tv k n2 hr hc hk] at b2
        have M2 : Hid (RfAt rb gb base tv { s with csrs := s.csrs.set k n2 } w2) := Lib.hid (M1.out.set u2 b2 rfl rfl)
        have R2 := Lib.hid (u2.keep R1.out (by simp; omega))
        have I2 := Lib.hid (u2.keep I1.out (by simp; omega))
        have V2 := Lib.hid ((U1.out.mono (T := [rb]) (by simp)).trans u2)
        clear b2 u2 z2 M1 R1 I1 U1 i0 i1 i2 ck
        have hc2 : (s.csrs.set k n2).length = 5 := by rw [List.length_set]; exact hc
        go_wp2_with (first
          | go_skip
          | ((with_reducible refine at_st 76 ?_); refine L_store_int 36 (.tmp 76) (.tmp 73) rfl (by kernel_rfl) rb 0 rfl (mcells { s with csrs := s.csrs.set k n2 } gb tv) 55 M2.out.cell .u32 (n4 : Int) rfl info_u1 (by rw [mcells_len { s with csrs := s.csrs.set k n2 } gb tv hr hc2]; decide) ?_))
        intro w3 b3 u3 z3
        rw [mset_pc] at b3
        have M3 : Hid (RfAt rb gb base tv { s with csrs := s.csrs.set k n2, pc := n4 } w3) := Lib.hid (M2.out.set u3 b3 rfl rfl)
        have R3 := Lib.hid (u3.keep R2.out (by simp; omega))
        have I3 := Lib.hid (u3.keep I2.out (by simp; omega))
        have V3 := Lib.hid (V2.out.trans u3)
        clear b3 u3 z3 M2 R2 I2 V2
        have i1 : w3.cell? ⟨zz.heap.size, 1, none⟩ = some (.int .i64 (rd : Int)) := by rw [cells_of I3.out]; rfl
        go_wp2_with (fail)
        refine (rput_calls rb gb base tv { s with csrs := s.csrs.set k n2, pc := n4 } _ M3.out hr hc2 s.pc rd old hd).mono ?_
        rintro e w4 ⟨rfl, m4, u4⟩
        have M4 := Lib.hid m4
        have R4 := Lib.hid (u4.keep R3.out (by simp; omega))
        have V4 := Lib.hid (V3.out.trans u4)
        clear m4 u4 M3 R3 I3 V3 i1
        go_wp2_with (first
          | go_skip
          | ((with_reducible refine at_st 8 ?_); refine L_store_row 38 (.tmp 8) (.tmp 83) rfl (by kernel_rfl) (zz.heap.size + 1) 0 rfl (retL ⟨0, 0, 0, false, 0, 0, 0⟩) 38 R4.out (retL (writeR s.pc rd old)).toArray rfl 7 info_ret rfl (by decide) (retL_one _) ?_))
        intro wA bA uA zA
        rw [spl_all (by rfl)] at bA
        go_wp2_with (fail)
        refine bodyPost_ret (results_cell_row rfl _ _ (zz.heap.size + 1) 38 (retL (writeR s.pc rd old)).toArray _ _ rfl bA Tryz.underlying38 rfl info_ret) rfl ⟨by rw [EX.out], ?_⟩
        rw [EX.out, applyM_write]
        exact ⟨M4.out.upd uA (by simp; omega) (by simp; omega) (fun g hg => by have := hown g hg; simp; omega), V4.out.then uA (fun x hx hlt => by simp at hx; omega)⟩
      · have EX : Hid (X = ⟨writeR s.pc rd old, n4, s.csrs.set k n1⟩) := Lib.hid (by rw [HX.out, HN.out, if_neg (by omega)])
        have f0 : ((k : Int) == 0) = false := by rw [beq_eq_false_iff_ne]; omega
        have f2 : ((k : Int) == 2) = false := by rw [beq_eq_false_iff_ne]; omega
        clear hk0 hk2 HX HN hh
        go_wp2_with (first
          | go_skip
          | ((with_reducible refine at_st 70 ?_); refine L_store_int 36 (.tmp 70) (.tmp 66) rfl (by kernel_rfl) rb (33 + k) rfl (mcells s gb tv) 55 M1.out.cell .u32 ((n1 : Nat) : Int) rfl info_u1 (by rw [mcells_len s gb tv hr hc]; omega) ?_))
        intro w2 b2 u2 z2
        rw [mset_csr s gb tv k n1 hr hc hk] at b2
        have M2 : Hid (RfAt rb gb base tv { s with csrs := s.csrs.set k n1 } w2) := Lib.hid (M1.out.set u2 b2 rfl rfl)
        have R2 := Lib.hid (u2.keep R1.out (by simp; omega))
        have I2 := Lib.hid (u2.keep I1.out (by simp; omega))
        have V2 := Lib.hid ((U1.out.mono (T := [rb]) (by simp)).trans u2)
        clear b2 u2 z2 M1 R1 I1 U1 i0 i1 i2 ck
        have hc2 : (s.csrs.set k n1).length = 5 := by rw [List.length_set]; exact hc
        go_wp2_with (first
          | go_skip
          | ((with_reducible refine at_st 76 ?_); refine L_store_int 36 (.tmp 76) (.tmp 73) rfl (by kernel_rfl) rb 0 rfl (mcells { s with csrs := s.csrs.set k n1 } gb tv) 55 M2.out.cell .u32 (n4 : Int) rfl info_u1 (by rw [mcells_len { s with csrs := s.csrs.set k n1 } gb tv hr hc2]; decide) ?_))
        intro w3 b3 u3 z3
        rw [mset_pc] at b3
        have M3 : Hid (RfAt rb gb base tv { s with csrs := s.csrs.set k n1, pc := n4 } w3) := Lib.hid (M2.out.set u3 b3 rfl rfl)
        have R3 := Lib.hid (u3.keep R2.out (by simp; omega))
        have I3 := Lib.hid (u3.keep I2.out (by simp; omega))
        have V3 := Lib.hid (V2.out.trans u3)
        clear b3 u3 z3 M2 R2 I2 V2
        have i1 : w3.cell? ⟨zz.heap.size, 1, none⟩ = some (.int .i64 (rd : Int)) := by rw [cells_of I3.out]; rfl
        go_wp2_with (fail)
        refine (rput_calls rb gb base tv { s with csrs := s.csrs.set k n1, pc := n4 } _ M3.out hr hc2 s.pc rd old hd).mono ?_
        rintro e w4 ⟨rfl, m4, u4⟩
        have M4 := Lib.hid m4
        have R4 := Lib.hid (u4.keep R3.out (by simp; omega))
        have V4 := Lib.hid (V3.out.trans u4)
        clear m4 u4 M3 R3 I3 V3 i1
        go_wp2_with (first
          | go_skip
          | ((with_reducible refine at_st 8 ?_); refine L_store_row 38 (.tmp 8) (.tmp 83) rfl (by kernel_rfl) (zz.heap.size + 1) 0 rfl (retL ⟨0, 0, 0, false, 0, 0, 0⟩) 38 R4.out (retL (writeR s.pc rd old)).toArray rfl 7 info_ret rfl (by decide) (retL_one _) ?_))
        intro wA bA uA zA
        rw [spl_all (by rfl)] at bA
        go_wp2_with (fail)
        refine bodyPost_ret (results_cell_row rfl _ _ (zz.heap.size + 1) 38 (retL (writeR s.pc rd old)).toArray _ _ rfl bA Tryz.underlying38 rfl info_ret) rfl ⟨by rw [EX.out], ?_⟩
        rw [EX.out, applyM_write]
        exact ⟨M4.out.upd uA (by simp; omega) (by simp; omega) (fun g hg => by have := hown g hg; simp; omega), V4.out.then uA (fun x hx hlt => by simp at hx; omega)⟩
end Go.Proofs.YtmdjhahafjlebaaGreatDoor
