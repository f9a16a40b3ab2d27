/- The reference's machine: CSRs. -/
import Derived.Test.YtggjmdgonjhioaaGreatQZ35
import Derived.Test.YtggjmdgonjhioaaGreatQZ37
namespace Go.Proofs.YtggjmdgonjhioaaGreat
open Go.RowKit Go.Dio
set_option linter.unusedSimpArgs false
set_option linter.unusedVariables false

def csrF (op r1 a old : Nat) : Nat :=
  if op = 50 then a else if op = 51 then old ||| a else if op = 52 then old &&& (4294967295 ^^^ a)
  else if op = 53 then r1 else if op = 54 then old ||| r1 else old &&& (4294967295 ^^^ r1)
theorem and_all (n : Nat) (h : n < 2 ^ 32) : n &&& (4294967295 ^^^ 0) = n := by
  rw [Nat.xor_zero, show (4294967295 : Nat) = 2 ^ 32 - 1 by decide, Nat.and_two_pow_sub_one_eq_mod, Nat.mod_eq_of_lt h]
theorem csrN_eqF (op r1 a old : Nat) (ho : 50 ≤ op ∧ op ≤ 55) (hz : r1 = 0 → a = 0) (hl : old < 2 ^ 32) : csrN op r1 a old = csrF op r1 a old := by
  unfold csrN csrF
  rcases (by omega : op = 50 ∨ op = 51 ∨ op = 52 ∨ op = 53 ∨ op = 54 ∨ op = 55) with rfl | rfl | rfl | rfl | rfl | rfl
  · by_cases h : r1 = 0 <;> simp [h]
  · by_cases h : r1 = 0
    · simp [h, hz h]
    · simp [h, Nat.or_comm]
  · by_cases h : r1 = 0
    · have := and_all old hl; simp [h, hz h] at this ⊢; exact this.symm
    · simp [h]
  · by_cases h : r1 = 0 <;> simp [h]
  · by_cases h : r1 = 0
    · simp [h]
    · simp [h, Nat.or_comm]
  · by_cases h : r1 = 0
    · have := and_all old hl; simp [h] at this ⊢; exact this.symm
    · simp [h]
set_option maxRecDepth 20000 in
set_option maxHeartbeats 16000000 in
theorem rcsr_calls (rb gb base : Nat) (tv : Value) (s : MSt) (zz : World) (M : RfAt rb gb base tv s zz) (hr : s.regs.length = 32) (hc : s.csrs.length = 5) (hcl : ∀ x ∈ s.csrs, x < 2 ^ 32) (hp : s.pc < 2 ^ 32) (i : InstV) (w a : Nat) (hw : w < 2 ^ 32) (ha : a < 2 ^ 32) (hd : i.rd < 32) (h1 : i.r1 < 32) (hz : i.r1 = 0 → a = 0) (ho : 50 ≤ i.op ∧ i.op ≤ 55) (hi : 0 ≤ i.imm ∧ i.imm < 4096) :
    Calls Tryz.prog 62 #[.pointer (some ⟨rb, 0, none⟩), .agg i.arr, .int .u32 (w : Int), .int .u32 (a : Int)] zz fun e z' => RfR rb gb base tv (applyM s (csrP s.pc w a s.csrs i)) (csrP s.pc w a s.csrs i).r zz e z' := by
  obtain ⟨op, rd, r1, r2, imm⟩ := i
  dsimp only at hd h1 hz ho hi
  obtain ⟨X, hX⟩ : ∃ X, X = csrP s.pc w a s.csrs ⟨op, rd, r1, r2, imm⟩ := ⟨_, rfl⟩
  rw [← hX]
  have HX := Lib.hid hX
  clear hX
  show Calls _ _ #[_, .agg #[.int .i64 (op : Int), .int .i64 (rd : Int), .int .i64 (r1 : Int), .int .i64 (r2 : Int), .int .i32 imm], _, _] _ _
  have hlt := lt_of_block M.cell
  have hgl := lt_of_block M.mem
  have hown : ∀ g, tv.ownBlock = some g → g < zz.heap.size := fun g hg => (World.ownsRow.lt M.own g hg).2
  have R0 := Lib.hid (hl2 zz (.cells (InstV.arr ⟨op, rd, r1, r2, imm⟩) 50) (.cells (retL ⟨0, 0, 0, false, 0, 0, 0⟩).toArray 38))
  have I0 := Lib.hid (heap_old (hl1 zz (.cells (InstV.arr ⟨op, rd, r1, r2, imm⟩) 50)) (.cells (retL ⟨0, 0, 0, false, 0, 0, 0⟩).toArray 38))
  have U0 := Lib.hid (((Upd.refl [] zz).alloc (.cells (InstV.arr ⟨op, rd, r1, r2, imm⟩) 50)).alloc (.cells (retL ⟨0, 0, 0, false, 0, 0, 0⟩).toArray 38))
  have M0 := Lib.hid (M.upd0 U0.out)
  clear M
  have v1 : IntKind.i64.wrap imm = imm := wrapi64 (by omega) (by omega)
  have v6 := wrap_u32 ((s.pc : Int) + 4)
  have v7 := mod_u32 ((s.pc : Int) + 4)
  generalize hn4 : u32 ((s.pc : Int) + 4) = n4 at *
  have N4 := Lib.hid hn4
  clear hn4
  have IX := Lib.hid (fun z => r7index_calls imm z)
  go_enter Tryz.func62, Tryz.ntmps62
  go_upto_region 1 with (fail)
  generalize hW : World.alloc (World.alloc zz _) _ = W
  have hW2 : (zz.alloc (.cells (InstV.arr ⟨op, rd, r1, r2, imm⟩) 50)).alloc (.cells (retL ⟨0, 0, 0, false, 0, 0, 0⟩).toArray 38) = W := hW
  rw [hW2] at R0 U0 M0 I0
  clear hW hW2
  have c0 : W.cell? ⟨rb, 0, none⟩ = some (.int .u32 (s.pc : Int)) := by rw [M0.out.cAt 0]; rfl
  have i4 : W.cell? ⟨zz.heap.size, 4, none⟩ = some (.int .i32 imm) := by rw [cells_of I0.out]; rfl
  go_wp2_with (fail)
  refine (IX.out _).mono ?_
  rintro e w1 ⟨rfl, u1⟩
  have M1 := Lib.hid (M0.out.upd0 u1)
  have R1 := Lib.hid (u1.keep R0.out (by simp))
  have I1 := Lib.hid (u1.keep I0.out (by simp))
  have U1 := Lib.hid (U0.out.trans u1)
  clear u1 M0 R0 I0 U0 c0 i4 IX
  rcases Int.lt_or_le (idxP imm) 0 with hneg | hpos
  · have EX : Hid (X = trapP s.pc s.csrs 2 w) := Lib.hid (by rw [HX.out]; unfold csrP; rw [if_pos hneg])
    have d0 : decide (idxP imm < 0) = true := decide_eq_true hneg
    clear hneg HX
    generalize idxP imm = kk at *
    go_wp2_with (fail)
    refine (rtrap_calls rb gb base tv s _ M1.out hr hc s.pc 2 w hp (by decide) hw).mono ?_
    rintro e w3 ⟨rfl, m3, u3⟩
    have M3 := Lib.hid m3
    have R3 := Lib.hid (u3.keep R1.out (by simp; omega))
    have V3 := Lib.hid ((U1.out.mono (T := [rb]) (by simp)).trans u3)
    clear m3 u3 M1 R1 U1 I1
    go_wp2_with (first
      | go_skip
      | ((with_reducible refine at_st 8 ?_); refine L_store_row 38 (.tmp 8) (.tmp 27) rfl (by kernel_rfl) (zz.heap.size + 1) 0 rfl (retL ⟨0, 0, 0, false, 0, 0, 0⟩) 38 R3.out (retL (pcR s.pc)).toArray rfl 7 info_ret rfl (by decide) (retL_one _) ?_))
    intro wA bA uA zA
    rw [spl_all (by rfl)] at bA
    go_wp2_with (fail)
    refine bodyPost_ret (results_cell_row rfl _ _ (zz.heap.size + 1) 38 (retL (pcR s.pc)).toArray _ _ rfl bA Tryz.underlying38 rfl info_ret) rfl ⟨by rw [EX.out]; rfl, ?_⟩
    rw [EX.out]
    exact ⟨M3.out.upd uA (by simp; omega) (by simp; omega) (fun g hg => by have := hown g hg; simp; omega), V3.out.then uA (fun x hx hlt => by simp at hx; omega)⟩
  · have hk5 : idxP imm < 5 := by unfold idxP; repeat (first | split | decide)
    obtain ⟨k, hk0⟩ : ∃ k : Nat, idxP imm = (k : Int) := ⟨(idxP imm).toNat, by omega⟩
    have hk : k < 5 := by omega
    have hX2 : X = ⟨writeR s.pc rd (nth s.csrs k), n4, s.csrs.set k (if k = 0 ∨ k = 2 then low2 (csrN op r1 a (nth s.csrs k)) else csrN op r1 a (nth s.csrs k))⟩ := by
      rw [HX.out, ← N4.out]; unfold csrP; rw [if_neg (show ¬ idxP imm < 0 by omega)]; simp only [hk0, Int.toNat_natCast]
    rw [csrN_eqF op r1 a (nth s.csrs k) ho hz (nthB2 hcl (by decide) k)] at hX2
    replace HX := Lib.hid hX2
    have ck : w1.cell? ⟨rb, 33 + k, none⟩ = some (.int .u32 ((nth s.csrs k : Nat) : Int)) := by rw [M1.out.cAt]; exact mc_csr s gb tv k hr hc hk
    have hol : nth s.csrs k < 2 ^ 32 := nthB2 hcl (by decide) k
    rw [hk0]
    clear hX2 hk0 hk5 hpos
    generalize nth s.csrs k = old at *
    have d0 : decide ((k : Int) < 0) = false := decide_eq_false (by omega)
    have d5 : decide ((k : Int) < 5) = true := decide_eq_true (by omega)
    have i0 : w1.cell? ⟨zz.heap.size, 0, none⟩ = some (.int .i64 (op : Int)) := by rw [cells_of I1.out]; rfl
    have i1 : w1.cell? ⟨zz.heap.size, 1, none⟩ = some (.int .i64 (rd : Int)) := by rw [cells_of I1.out]; rfl
    have i2 : w1.cell? ⟨zz.heap.size, 2, none⟩ = some (.int .i64 (r1 : Int)) := by rw [cells_of I1.out]; rfl
    have r1w : IntKind.u32.wrap (r1 : Int) = (r1 : Int) := by rw [wrap_u32, u32_id (by omega)]
    have r1m : (r1 : Int) % 4294967296 = (r1 : Int) := by omega
    have r1l : r1 < 2 ^ 32 := by omega
    rcases (by omega : op = 50 ∨ op = 51 ∨ op = 52 ∨ op = 53 ∨ op = 54 ∨ op = 55) with rfl | rfl | rfl | rfl | rfl | rfl
    · have HN : Hid (csrF 50 r1 a old = a) := Lib.hid rfl
      have hn1 := ha
      generalize a = n1 at *
      have hh := high2 n1 hn1
      rcases (by omega : k = 0 ∨ k = 2 ∨ (k ≠ 0 ∧ k ≠ 2)) with hk0 | hk2 | ⟨hk0, hk2⟩
      · have EX : Hid (X = ⟨writeR s.pc rd old, n4, s.csrs.set k (n1 / 4 * 4)⟩) := Lib.hid (by rw [HX.out, HN.out, if_pos (Or.inl hk0)]; rfl)
        have f0 : ((k : Int) == 0) = true := by rw [beq_iff_eq]; omega
        clear hk0 HX HN
        generalize n1 / 4 * 4 = n2 at *
        go_wp2_with (first
          | go_skip
          | ((with_reducible refine at_st 70 ?_); refine L_store_int 36 (.tmp 70) (.tmp 66) rfl (by kernel_rfl) rb (33 + k) rfl (mcells s gb tv) 65 M1.out.cell .u32 ((n2 : Nat) : Int) rfl info_u1 (by rw [mcells_len s gb tv hr hc]; omega) ?_))
        intro w2 b2 u2 z2
        rw [mset_csr s gb tv k n2 hr hc hk] at b2
        have M2 : Hid (RfAt rb gb base tv { s with csrs := s.csrs.set k n2 } w2) := Lib.hid (M1.out.set u2 b2 rfl rfl)
        have R2 := Lib.hid (u2.keep R1.out (by simp; omega))
        have I2 := Lib.hid (u2.keep I1.out (by simp; omega))
        have V2 := Lib.hid ((U1.out.mono (T := [rb]) (by simp)).trans u2)
        clear b2 u2 z2 M1 R1 I1 U1 i0 i1 i2 ck
        have hc2 : (s.csrs.set k n2).length = 5 := by rw [List.length_set]; exact hc
        go_wp2_with (first
          | go_skip
          | ((with_reducible refine at_st 76 ?_); refine L_store_int 36 (.tmp 76) (.tmp 73) rfl (by kernel_rfl) rb 0 rfl (mcells { s with csrs := s.csrs.set k n2 } gb tv) 65 M2.out.cell .u32 (n4 : Int) rfl info_u1 (by rw [mcells_len { s with csrs := s.csrs.set k n2 } gb tv hr hc2]; decide) ?_))
        intro w3 b3 u3 z3
        rw [mset_pc] at b3
        have M3 : Hid (RfAt rb gb base tv { s with csrs := s.csrs.set k n2, pc := n4 } w3) := Lib.hid (M2.out.set u3 b3 rfl rfl)
        have R3 := Lib.hid (u3.keep R2.out (by simp; omega))
        have I3 := Lib.hid (u3.keep I2.out (by simp; omega))
        have V3 := Lib.hid (V2.out.trans u3)
        clear b3 u3 z3 M2 R2 I2 V2
        have i1 : w3.cell? ⟨zz.heap.size, 1, none⟩ = some (.int .i64 (rd : Int)) := by rw [cells_of I3.out]; rfl
        go_wp2_with (fail)
        refine (rput_calls rb gb base tv { s with csrs := s.csrs.set k n2, pc := n4 } _ M3.out hr hc2 s.pc rd old hd).mono ?_
        rintro e w4 ⟨rfl, m4, u4⟩
        have M4 := Lib.hid m4
        have R4 := Lib.hid (u4.keep R3.out (by simp; omega))
        have V4 := Lib.hid (V3.out.trans u4)
        clear m4 u4 M3 R3 I3 V3 i1
        go_wp2_with (first
          | go_skip
          | ((with_reducible refine at_st 8 ?_); refine L_store_row 38 (.tmp 8) (.tmp 83) rfl (by kernel_rfl) (zz.heap.size + 1) 0 rfl (retL ⟨0, 0, 0, false, 0, 0, 0⟩) 38 R4.out (retL (writeR s.pc rd old)).toArray rfl 7 info_ret rfl (by decide) (retL_one _) ?_))
        intro wA bA uA zA
        rw [spl_all (by rfl)] at bA
        go_wp2_with (fail)
        refine bodyPost_ret (results_cell_row rfl _ _ (zz.heap.size + 1) 38 (retL (writeR s.pc rd old)).toArray _ _ rfl bA Tryz.underlying38 rfl info_ret) rfl ⟨by rw [EX.out], ?_⟩
        rw [EX.out, applyM_write]
        exact ⟨M4.out.upd uA (by simp; omega) (by simp; omega) (fun g hg => by have := hown g hg; simp; omega), V4.out.then uA (fun x hx hlt => by simp at hx; omega)⟩
      · have EX : Hid (X = ⟨writeR s.pc rd old, n4, s.csrs.set k (n1 / 4 * 4)⟩) := Lib.hid (by rw [HX.out, HN.out, if_pos (Or.inr hk2)]; rfl)
        have f0 : ((k : Int) == 0) = false := by rw [beq_eq_false_iff_ne]; omega
        have f2 : ((k : Int) == 2) = true := by rw [beq_iff_eq]; omega
        clear hk2 HX HN
        generalize n1 / 4 * 4 = n2 at *
        go_wp2_with (first
          | go_skip
          | ((with_reducible refine at_st 70 ?_); refine L_store_int 36 (.tmp 70) (.tmp 66) rfl (by kernel_rfl) rb (33 + k) rfl (mcells s gb tv) 65 M1.out.cell .u32 ((n2 : Nat) : Int) rfl info_u1 (by rw [mcells_len s gb tv hr hc]; omega) ?_))
        intro w2 b2 u2 z2
        rw [mset_csr s gb tv k n2 hr hc hk] at b2
        have M2 : Hid (RfAt rb gb base tv { s with csrs := s.csrs.set k n2 } w2) := Lib.hid (M1.out.set u2 b2 rfl rfl)
        have R2 := Lib.hid (u2.keep R1.out (by simp; omega))
        have I2 := Lib.hid (u2.keep I1.out (by simp; omega))
        have V2 := Lib.hid ((U1.out.mono (T := [rb]) (by simp)).trans u2)
        clear b2 u2 z2 M1 R1 I1 U1 i0 i1 i2 ck
        have hc2 : (s.csrs.set k n2).length = 5 := by rw [List.length_set]; exact hc
        go_wp2_with (first
          | go_skip
          | ((with_reducible refine at_st 76 ?_); refine L_store_int 36 (.tmp 76) (.tmp 73) rfl (by kernel_rfl) rb 0 rfl (mcells { s with csrs := s.csrs.set k n2 } gb tv) 65 M2.out.cell .u32 (n4 : Int) rfl info_u1 (by rw [mcells_len { s with csrs := s.csrs.set k n2 } gb tv hr hc2]; decide) ?_))
        intro w3 b3 u3 z3
        rw [mset_pc] at b3
        have M3 : Hid (RfAt rb gb base tv { s with csrs := s.csrs.set k n2, pc := n4 } w3) := Lib.hid (M2.out.set u3 b3 rfl rfl)
        have R3 := Lib.hid (u3.keep R2.out (by simp; omega))
        have I3 := Lib.hid (u3.keep I2.out (by simp; omega))
        have V3 := Lib.hid (V2.out.trans u3)
        clear b3 u3 z3 M2 R2 I2 V2
        have i1 : w3.cell? ⟨zz.heap.size, 1, none⟩ = some (.int .i64 (rd : Int)) := by rw [cells_of I3.out]; rfl
        go_wp2_with (fail)
        refine (rput_calls rb gb base tv { s with csrs := s.csrs.set k n2, pc := n4 } _ M3.out hr hc2 s.pc rd old hd).mono ?_
        rintro e w4 ⟨rfl, m4, u4⟩
        have M4 := Lib.hid m4
        have R4 := Lib.hid (u4.keep R3.out (by simp; omega))
        have V4 := Lib.hid (V3.out.trans u4)
        clear m4 u4 M3 R3 I3 V3 i1
        go_wp2_with (first
          | go_skip
          | ((with_reducible refine at_st 8 ?_); refine L_store_row 38 (.tmp 8) (.tmp 83) rfl (by kernel_rfl) (zz.heap.size + 1) 0 rfl (retL ⟨0, 0, 0, false, 0, 0, 0⟩) 38 R4.out (retL (writeR s.pc rd old)).toArray rfl 7 info_ret rfl (by decide) (retL_one _) ?_))
        intro wA bA uA zA
        rw [spl_all (by rfl)] at bA
        go_wp2_with (fail)
        refine bodyPost_ret (results_cell_row rfl _ _ (zz.heap.size + 1) 38 (retL (writeR s.pc rd old)).toArray _ _ rfl bA Tryz.underlying38 rfl info_ret) rfl ⟨by rw [EX.out], ?_⟩
        rw [EX.out, applyM_write]
        exact ⟨M4.out.upd uA (by simp; omega) (by simp; omega) (fun g hg => by have := hown g hg; simp; omega), V4.out.then uA (fun x hx hlt => by simp at hx; omega)⟩
      · have EX : Hid (X = ⟨writeR s.pc rd old, n4, s.csrs.set k n1⟩) := Lib.hid (by rw [HX.out, HN.out, if_neg (by omega)])
        have f0 : ((k : Int) == 0) = false := by rw [beq_eq_false_iff_ne]; omega
        have f2 : ((k : Int) == 2) = false := by rw [beq_eq_false_iff_ne]; omega
        clear hk0 hk2 HX HN hh
        go_wp2_with (first
          | go_skip
          | ((with_reducible refine at_st 70 ?_); refine L_store_int 36 (.tmp 70) (.tmp 66) rfl (by kernel_rfl) rb (33 + k) rfl (mcells s gb tv) 65 M1.out.cell .u32 ((n1 : Nat) : Int) rfl info_u1 (by rw [mcells_len s gb tv hr hc]; omega) ?_))
        intro w2 b2 u2 z2
        rw [mset_csr s gb tv k n1 hr hc hk] at b2
        have M2 : Hid (RfAt rb gb base tv { s with csrs := s.csrs.set k n1 } w2) := Lib.hid (M1.out.set u2 b2 rfl rfl)
        have R2 := Lib.hid (u2.keep R1.out (by simp; omega))
        have I2 := Lib.hid (u2.keep I1.out (by simp; omega))
        have V2 := Lib.hid ((U1.out.mono (T := [rb]) (by simp)).trans u2)
        clear b2 u2 z2 M1 R1 I1 U1 i0 i1 i2 ck
        have hc2 : (s.csrs.set k n1).length = 5 := by rw [List.length_set]; exact hc
        go_wp2_with (first
          | go_skip
          | ((with_reducible refine at_st 76 ?_); refine L_store_int 36 (.tmp 76) (.tmp 73) rfl (by kernel_rfl) rb 0 rfl (mcells { s with csrs := s.csrs.set k n1 } gb tv) 65 M2.out.cell .u32 (n4 : Int) rfl info_u1 (by rw [mcells_len { s with csrs := s.csrs.set k n1 } gb tv hr hc2]; decide) ?_))
        intro w3 b3 u3 z3
        rw [mset_pc] at b3
        have M3 : Hid (RfAt rb gb base tv { s with csrs := s.csrs.set k n1, pc := n4 } w3) := Lib.hid (M2.out.set u3 b3 rfl rfl)
        have R3 := Lib.hid (u3.keep R2.out (by simp; omega))
        have I3 := Lib.hid (u3.keep I2.out (by simp; omega))
        have V3 := Lib.hid (V2.out.trans u3)
        clear b3 u3 z3 M2 R2 I2 V2
        have i1 : w3.cell? ⟨zz.heap.size, 1, none⟩ = some (.int .i64 (rd : Int)) := by rw [cells_of I3.out]; rfl
        go_wp2_with (fail)
        refine (rput_calls rb gb base tv { s with csrs := s.csrs.set k n1, pc := n4 } _ M3.out hr hc2 s.pc rd old hd).mono ?_
        rintro e w4 ⟨rfl, m4, u4⟩
        have M4 := Lib.hid m4
        have R4 := Lib.hid (u4.keep R3.out (by simp; omega))
        have V4 := Lib.hid (V3.out.trans u4)
        clear m4 u4 M3 R3 I3 V3 i1
        go_wp2_with (first
          | go_skip
          | ((with_reducible refine at_st 8 ?_); refine L_store_row 38 (.tmp 8) (.tmp 83) rfl (by kernel_rfl) (zz.heap.size + 1) 0 rfl (retL ⟨0, 0, 0, false, 0, 0, 0⟩) 38 R4.out (retL (writeR s.pc rd old)).toArray rfl 7 info_ret rfl (by decide) (retL_one _) ?_))
        intro wA bA uA zA
        rw [spl_all (by rfl)] at bA
        go_wp2_with (fail)
        refine bodyPost_ret (results_cell_row rfl _ _ (zz.heap.size + 1) 38 (retL (writeR s.pc rd old)).toArray _ _ rfl bA Tryz.underlying38 rfl info_ret) rfl ⟨by rw [EX.out], ?_⟩
        rw [EX.out, applyM_write]
        exact ⟨M4.out.upd uA (by simp; omega) (by simp; omega) (fun g hg => by have := hown g hg; simp; omega), V4.out.then uA (fun x hx hlt => by simp at hx; omega)⟩
    · have HN : Hid (csrF 51 r1 a old = old ||| a) := Lib.hid rfl
      have hn1 := Nat.or_lt_two_pow hol ha
      have hb := or32 old a hol ha
      generalize old ||| a = n1 at *
      have hh := high2 n1 hn1
      rcases (by omega : k = 0 ∨ k = 2 ∨ (k ≠ 0 ∧ k ≠ 2)) with hk0 | hk2 | ⟨hk0, hk2⟩
      · have EX : Hid (X = ⟨writeR s.pc rd old, n4, s.csrs.set k (n1 / 4 * 4)⟩) := Lib.hid (by rw [HX.out, HN.out, if_pos (Or.inl hk0)]; rfl)
        have f0 : ((k : Int) == 0) = true := by rw [beq_iff_eq]; omega
        clear hk0 HX HN
        generalize n1 / 4 * 4 = n2 at *
        go_wp2_with (first
          | go_skip
          | ((with_reducible refine at_st 70 ?_); refine L_store_int 36 (.tmp 70) (.tmp 66) rfl (by kernel_rfl) rb (33 + k) rfl (mcells s gb tv) 65 M1.out.cell .u32 ((n2 : Nat) : Int) rfl info_u1 (by rw [mcells_len s gb tv hr hc]; omega) ?_))
        intro w2 b2 u2 z2
        rw [mset_csr s gb tv k n2 hr hc hk] at b2
        have M2 : Hid (RfAt rb gb base tv { s with csrs := s.csrs.set k n2 } w2) := Lib.hid (M1.out.set u2 b2 rfl rfl)
        have R2 := Lib.hid (u2.keep R1.out (by simp; omega))
        have I2 := Lib.hid (u2.keep I1.out (by simp; omega))
        have V2 := Lib.hid ((U1.out.mono (T := [rb]) (by simp)).trans u2)
        clear b2 u2 z2 M1 R1 I1 U1 i0 i1 i2 ck
        have hc2 : (s.csrs.set k n2).length = 5 := by rw [List.length_set]; exact hc
        go_wp2_with (first
          | go_skip
          | ((with_reducible refine at_st 76 ?_); refine L_store_int 36 (.tmp 76) (.tmp 73) rfl (by kernel_rfl) rb 0 rfl (mcells { s with csrs := s.csrs.set k n2 } gb tv) 65 M2.out.cell .u32 (n4 : Int) rfl info_u1 (by rw [mcells_len { s with csrs := s.csrs.set k n2 } gb tv hr hc2]; decide) ?_))
        intro w3 b3 u3 z3
        rw [mset_pc] at b3
        have M3 : Hid (RfAt rb gb base tv { s with csrs := s.csrs.set k n2, pc := n4 } w3) := Lib.hid (M2.out.set u3 b3 rfl rfl)
        have R3 := Lib.hid (u3.keep R2.out (by simp; omega))
        have I3 := Lib.hid (u3.keep I2.out (by simp; omega))
        have V3 := Lib.hid (V2.out.trans u3)
        clear b3 u3 z3 M2 R2 I2 V2
        have i1 : w3.cell? ⟨zz.heap.size, 1, none⟩ = some (.int .i64 (rd : Int)) := by rw [cells_of I3.out]; rfl
        go_wp2_with (fail)
        refine (rput_calls rb gb base tv { s with csrs := s.csrs.set k n2, pc := n4 } _ M3.out hr hc2 s.pc rd old hd).mono ?_
        rintro e w4 ⟨rfl, m4, u4⟩
        have M4 := Lib.hid m4
        have R4 := Lib.hid (u4.keep R3.out (by simp; omega))
        have V4 := Lib.hid (V3.out.trans u4)
        clear m4 u4 M3 R3 I3 V3 i1
        go_wp2_with (first
          | go_skip
          | ((with_reducible refine at_st 8 ?_); refine L_store_row 38 (.tmp 8) (.tmp 83) rfl (by kernel_rfl) (zz.heap.size + 1) 0 rfl (retL ⟨0, 0, 0, false, 0, 0, 0⟩) 38 R4.out (retL (writeR s.pc rd old)).toArray rfl 7 info_ret rfl (by decide) (retL_one _) ?_))
        intro wA bA uA zA
        rw [spl_all (by rfl)] at bA
        go_wp2_with (fail)
        refine bodyPost_ret (results_cell_row rfl _ _ (zz.heap.size + 1) 38 (retL (writeR s.pc rd old)).toArray _ _ rfl bA Tryz.underlying38 rfl info_ret) rfl ⟨by rw [EX.out], ?_⟩
        rw [EX.out, applyM_write]
        exact ⟨M4.out.upd uA (by simp; omega) (by simp; omega) (fun g hg => by have := hown g hg; simp; omega), V4.out.then uA (fun x hx hlt => by simp at hx; omega)⟩
      · have EX : Hid (X = ⟨writeR s.pc rd old, n4, s.csrs.set k (n1 / 4 * 4)⟩) := Lib.hid (by rw [HX.out, HN.out, if_pos (Or.inr hk2)]; rfl)
        have f0 : ((k : Int) == 0) = false := by rw [beq_eq_false_iff_ne]; omega
        have f2 : ((k : Int) == 2) = true := by rw [beq_iff_eq]; omega
        clear hk2 HX HN
        generalize n1 / 4 * 4 = n2 at *
        go_wp2_with (first
          | go_skip
          | ((with_reducible refine at_st 70 ?_); refine L_store_int 36 (.tmp 70) (.tmp 66) rfl (by kernel_rfl) rb (33 + k) rfl (mcells s gb tv) 65 M1.out.cell .u32 ((n2 : Nat) : Int) rfl info_u1 (by rw [mcells_len s gb tv hr hc]; omega) ?_))
        intro w2 b2 u2 z2
        rw [mset_csr s gb tv k n2 hr hc hk] at b2
        have M2 : Hid (RfAt rb gb base tv { s with csrs := s.csrs.set k n2 } w2) := Lib.hid (M1.out.set u2 b2 rfl rfl)
        have R2 := Lib.hid (u2.keep R1.out (by simp; omega))
        have I2 := Lib.hid (u2.keep I1.out (by simp; omega))
        have V2 := Lib.hid ((U1.out.mono (T := [rb]) (by simp)).trans u2)
        clear b2 u2 z2 M1 R1 I1 U1 i0 i1 i2 ck
        have hc2 : (s.csrs.set k n2).length = 5 := by rw [List.length_set]; exact hc
        go_wp2_with (first
          | go_skip
          | ((with_reducible refine at_st 76 ?_); refine L_store_int 36 (.tmp 76) (.tmp 73) rfl (by kernel_rfl) rb 0 rfl (mcells { s with csrs := s.csrs.set k n2 } gb tv) 65 M2.out.cell .u32 (n4 : Int) rfl info_u1 (by rw [mcells_len { s with csrs := s.csrs.set k n2 } gb tv hr hc2]; decide) ?_))
        intro w3 b3 u3 z3
        rw [mset_pc] at b3
        have M3 : Hid (RfAt rb gb base tv { s with csrs := s.csrs.set k n2, pc := n4 } w3) := Lib.hid (M2.out.set u3 b3 rfl rfl)
        have R3 := Lib.hid (u3.keep R2.out (by simp; omega))
        have I3 := Lib.hid (u3.keep I2.out (by simp; omega))
        have V3 := Lib.hid (V2.out.trans u3)
        clear b3 u3 z3 M2 R2 I2 V2
        have i1 : w3.cell? ⟨zz.heap.size, 1, none⟩ = some (.int .i64 (rd : Int)) := by rw [cells_of I3.out]; rfl
        go_wp2_with (fail)
        refine (rput_calls rb gb base tv { s with csrs := s.csrs.set k n2, pc := n4 } _ M3.out hr hc2 s.pc rd old hd).mono ?_
        rintro e w4 ⟨rfl, m4, u4⟩
        have M4 := Lib.hid m4
        have R4 := Lib.hid (u4.keep R3.out (by simp; omega))
        have V4 := Lib.hid (V3.out.trans u4)
        clear m4 u4 M3 R3 I3 V3 i1
        go_wp2_with (first
          | go_skip
          | ((with_reducible refine at_st 8 ?_); refine L_store_row 38 (.tmp 8) (.tmp 83) rfl (by kernel_rfl) (zz.heap.size + 1) 0 rfl (retL ⟨0, 0, 0, false, 0, 0, 0⟩) 38 R4.out (retL (writeR s.pc rd old)).toArray rfl 7 info_ret rfl (by decide) (retL_one _) ?_))
        intro wA bA uA zA
        rw [spl_all (by rfl)] at bA
        go_wp2_with (fail)
        refine bodyPost_ret (results_cell_row rfl _ _ (zz.heap.size + 1) 38 (retL (writeR s.pc rd old)).toArray _ _ rfl bA Tryz.underlying38 rfl info_ret) rfl ⟨by rw [EX.out], ?_⟩
        rw [EX.out, applyM_write]
        exact ⟨M4.out.upd uA (by simp; omega) (by simp; omega) (fun g hg => by have := hown g hg; simp; omega), V4.out.then uA (fun x hx hlt => by simp at hx; omega)⟩
      · have EX : Hid (X = ⟨writeR s.pc rd old, n4, s.csrs.set k n1⟩) := Lib.hid (by rw [HX.out, HN.out, if_neg (by omega)])
        have f0 : ((k : Int) == 0) = false := by rw [beq_eq_false_iff_ne]; omega
        have f2 : ((k : Int) == 2) = false := by rw [beq_eq_false_iff_ne]; omega
        clear hk0 hk2 HX HN hh
        go_wp2_with (first
          | go_skip
          | ((with_reducible refine at_st 70 ?_); refine L_store_int 36 (.tmp 70) (.tmp 66) rfl (by kernel_rfl) rb (33 + k) rfl (mcells s gb tv) 65 M1.out.cell .u32 ((n1 : Nat) : Int) rfl info_u1 (by rw [mcells_len s gb tv hr hc]; omega) ?_))
        intro w2 b2 u2 z2
        rw [mset_csr s gb tv k n1 hr hc hk] at b2
        have M2 : Hid (RfAt rb gb base tv { s with csrs := s.csrs.set k n1 } w2) := Lib.hid (M1.out.set u2 b2 rfl rfl)
        have R2 := Lib.hid (u2.keep R1.out (by simp; omega))
        have I2 := Lib.hid (u2.keep I1.out (by simp; omega))
        have V2 := Lib.hid ((U1.out.mono (T := [rb]) (by simp)).trans u2)
        clear b2 u2 z2 M1 R1 I1 U1 i0 i1 i2 ck
        have hc2 : (s.csrs.set k n1).length = 5 := by rw [List.length_set]; exact hc
        go_wp2_with (first
          | go_skip
          | ((with_reducible refine at_st 76 ?_); refine L_store_int 36 (.tmp 76) (.tmp 73) rfl (by kernel_rfl) rb 0 rfl (mcells { s with csrs := s.csrs.set k n1 } gb tv) 65 M2.out.cell .u32 (n4 : Int) rfl info_u1 (by rw [mcells_len { s with csrs := s.csrs.set k n1 } gb tv hr hc2]; decide) ?_))
        intro w3 b3 u3 z3
        rw [mset_pc] at b3
        have M3 : Hid (RfAt rb gb base tv { s with csrs := s.csrs.set k n1, pc := n4 } w3) := Lib.hid (M2.out.set u3 b3 rfl rfl)
        have R3 := Lib.hid (u3.keep R2.out (by simp; omega))
        have I3 := Lib.hid (u3.keep I2.out (by simp; omega))
        have V3 := Lib.hid (V2.out.trans u3)
        clear b3 u3 z3 M2 R2 I2 V2
        have i1 : w3.cell? ⟨zz.heap.size, 1, none⟩ = some (.int .i64 (rd : Int)) := by rw [cells_of I3.out]; rfl
        go_wp2_with (fail)
        refine (rput_calls rb gb base tv { s with csrs := s.csrs.set k n1, pc := n4 } _ M3.out hr hc2 s.pc rd old hd).mono ?_
        rintro e w4 ⟨rfl, m4, u4⟩
        have M4 := Lib.hid m4
        have R4 := Lib.hid (u4.keep R3.out (by simp; omega))
        have V4 := Lib.hid (V3.out.trans u4)
        clear m4 u4 M3 R3 I3 V3 i1
        go_wp2_with (first
          | go_skip
          | ((with_reducible refine at_st 8 ?_); refine L_store_row 38 (.tmp 8) (.tmp 83) rfl (by kernel_rfl) (zz.heap.size + 1) 0 rfl (retL ⟨0, 0, 0, false, 0, 0, 0⟩) 38 R4.out (retL (writeR s.pc rd old)).toArray rfl 7 info_ret rfl (by decide) (retL_one _) ?_))
        intro wA bA uA zA
        rw [spl_all (by rfl)] at bA
        go_wp2_with (fail)
        refine bodyPost_ret (results_cell_row rfl _ _ (zz.heap.size + 1) 38 (retL (writeR s.pc rd old)).toArray _ _ rfl bA Tryz.underlying38 rfl info_ret) rfl ⟨by rw [EX.out], ?_⟩
        rw [EX.out, applyM_write]
        exact ⟨M4.out.upd uA (by simp; omega) (by simp; omega) (fun g hg => by have := hown g hg; simp; omega), V4.out.then uA (fun x hx hlt => by simp at hx; omega)⟩
    · have HN : Hid (csrF 52 r1 a old = old &&& (4294967295 ^^^ a)) := Lib.hid rfl
      have hn1 := Nat.lt_of_le_of_lt (Nat.and_le_left (n := old) (m := (4294967295 ^^^ a))) hol
      have hb := andnot32 old a hol ha
      generalize old &&& (4294967295 ^^^ a) = n1 at *
      have hh := high2 n1 hn1
      rcases (by omega : k = 0 ∨ k = 2 ∨ (k ≠ 0 ∧ k ≠ 2)) with hk0 | hk2 | ⟨hk0, hk2⟩
      · have EX : Hid (X = ⟨writeR s.pc rd old, n4, s.csrs.set k (n1 / 4 * 4)⟩) := Lib.hid (by rw [HX.out, HN.out, if_pos (Or.inl hk0)]; rfl)
        have f0 : ((k : Int) == 0) = true := by rw [beq_iff_eq]; omega
        clear hk0 HX HN
        generalize n1 / 4 * 4 = n2 at *
        go_wp2_with (first
          | go_skip
          | ((with_reducible refine at_st 70 ?_); refine L_store_int 36 (.tmp 70) (.tmp 66) rfl (by kernel_rfl) rb (33 + k) rfl (mcells s gb tv) 65 M1.out.cell .u32 ((n2 : Nat) : Int) rfl info_u1 (by rw [mcells_len s gb tv hr hc]; omega) ?_))
        intro w2 b2 u2 z2
        rw [mset_csr s gb tv k n2 hr hc hk] at b2
        have M2 : Hid (RfAt rb gb base tv { s with csrs := s.csrs.set k n2 } w2) := Lib.hid (M1.out.set u2 b2 rfl rfl)
        have R2 := Lib.hid (u2.keep R1.out (by simp; omega))
        have I2 := Lib.hid (u2.keep I1.out (by simp; omega))
        have V2 := Lib.hid ((U1.out.mono (T := [rb]) (by simp)).trans u2)
        clear b2 u2 z2 M1 R1 I1 U1 i0 i1 i2 ck
        have hc2 : (s.csrs.set k n2).length = 5 := by rw [List.length_set]; exact hc
        go_wp2_with (first
          | go_skip
          | ((with_reducible refine at_st 76 ?_); refine L_store_int 36 (.tmp 76) (.tmp 73) rfl (by kernel_rfl) rb 0 rfl (mcells { s with csrs := s.csrs.set k n2 } gb tv) 65 M2.out.cell .u32 (n4 : Int) rfl info_u1 (by rw [mcells_len { s with csrs := s.csrs.set k n2 } gb tv hr hc2]; decide) ?_))
        intro w3 b3 u3 z3
        rw [mset_pc] at b3
        have M3 : Hid (RfAt rb gb base tv { s with csrs := s.csrs.set k n2, pc := n4 } w3) := Lib.hid (M2.out.set u3 b3 rfl rfl)
        have R3 := Lib.hid (u3.keep R2.out (by simp; omega))
        have I3 := Lib.hid (u3.keep I2.out (by simp; omega))
        have V3 := Lib.hid (V2.out.trans u3)
        clear b3 u3 z3 M2 R2 I2 V2
        have i1 : w3.cell? ⟨zz.heap.size, 1, none⟩ = some (.int .i64 (rd : Int)) := by rw [cells_of I3.out]; rfl
        go_wp2_with (fail)
        refine (rput_calls rb gb base tv { s with csrs := s.csrs.set k n2, pc := n4 } _ M3.out hr hc2 s.pc rd old hd).mono ?_
        rintro e w4 ⟨rfl, m4, u4⟩
        have M4 := Lib.hid m4
        have R4 := Lib.hid (u4.keep R3.out (by simp; omega))
        have V4 := Lib.hid (V3.out.trans u4)
        clear m4 u4 M3 R3 I3 V3 i1
        go_wp2_with (first
          | go_skip
          | ((with_reducible refine at_st 8 ?_); refine L_store_row 38 (.tmp 8) (.tmp 83) rfl (by kernel_rfl) (zz.heap.size + 1) 0 rfl (retL ⟨0, 0, 0, false, 0, 0, 0⟩) 38 R4.out (retL (writeR s.pc rd old)).toArray rfl 7 info_ret rfl (by decide) (retL_one _) ?_))
        intro wA bA uA zA
        rw [spl_all (by rfl)] at bA
        go_wp2_with (fail)
        refine bodyPost_ret (results_cell_row rfl _ _ (zz.heap.size + 1) 38 (retL (writeR s.pc rd old)).toArray _ _ rfl bA Tryz.underlying38 rfl info_ret) rfl ⟨by rw [EX.out], ?_⟩
        rw [EX.out, applyM_write]
        exact ⟨M4.out.upd uA (by simp; omega) (by simp; omega) (fun g hg => by have := hown g hg; simp; omega), V4.out.then uA (fun x hx hlt => by simp at hx; omega)⟩
      · have EX : Hid (X = ⟨writeR s.pc rd old, n4, s.csrs.set k (n1 / 4 * 4)⟩) := Lib.hid (by rw [HX.out, HN.out, if_pos (Or.inr hk2)]; rfl)
        have f0 : ((k : Int) == 0) = false := by rw [beq_eq_false_iff_ne]; omega
        have f2 : ((k : Int) == 2) = true := by rw [beq_iff_eq]; omega
        clear hk2 HX HN
        generalize n1 / 4 * 4 = n2 at *
        go_wp2_with (first
          | go_skip
          | ((with_reducible refine at_st 70 ?_); refine L_store_int 36 (.tmp 70) (.tmp 66) rfl (by kernel_rfl) rb (33 + k) rfl (mcells s gb tv) 65 M1.out.cell .u32 ((n2 : Nat) : Int) rfl info_u1 (by rw [mcells_len s gb tv hr hc]; omega) ?_))
        intro w2 b2 u2 z2
        rw [mset_csr s gb tv k n2 hr hc hk] at b2
        have M2 : Hid (RfAt rb gb base tv { s with csrs := s.csrs.set k n2 } w2) := Lib.hid (M1.out.set u2 b2 rfl rfl)
        have R2 := Lib.hid (u2.keep R1.out (by simp; omega))
        have I2 := Lib.hid (u2.keep I1.out (by simp; omega))
        have V2 := Lib.hid ((U1.out.mono (T := [rb]) (by simp)).trans u2)
        clear b2 u2 z2 M1 R1 I1 U1 i0 i1 i2 ck
        have hc2 : (s.csrs.set k n2).length = 5 := by rw [List.length_set]; exact hc
        go_wp2_with (first
          | go_skip
          | ((with_reducible refine at_st 76 ?_); refine L_store_int 36 (.tmp 76) (.tmp 73) rfl (by kernel_rfl) rb 0 rfl (mcells { s with csrs := s.csrs.set k n2 } gb tv) 65 M2.out.cell .u32 (n4 : Int) rfl info_u1 (by rw [mcells_len { s with csrs := s.csrs.set k n2 } gb tv hr hc2]; decide) ?_))
        intro w3 b3 u3 z3
        rw [mset_pc] at b3
        have M3 : Hid (RfAt rb gb base tv { s with csrs := s.csrs.set k n2, pc := n4 } w3) := Lib.hid (M2.out.set u3 b3 rfl rfl)
        have R3 := Lib.hid (u3.keep R2.out (by simp; omega))
        have I3 := Lib.hid (u3.keep I2.out (by simp; omega))
        have V3 := Lib.hid (V2.out.trans u3)
        clear b3 u3 z3 M2 R2 I2 V2
        have i1 : w3.cell? ⟨zz.heap.size, 1, none⟩ = some (.int .i64 (rd : Int)) := by rw [cells_of I3.out]; rfl
        go_wp2_with (fail)
        refine (rput_calls rb gb base tv { s with csrs := s.csrs.set k n2, pc := n4 } _ M3.out hr hc2 s.pc rd old hd).mono ?_
        rintro e w4 ⟨rfl, m4, u4⟩
        have M4 := Lib.hid m4
        have R4 := Lib.hid (u4.keep R3.out (by simp; omega))
        have V4 := Lib.hid (V3.out.trans u4)
        clear m4 u4 M3 R3 I3 V3 i1
        go_wp2_with (first
          | go_skip
          | ((with_reducible refine at_st 8 ?_); refine L_store_row 38 (.tmp 8) (.tmp 83) rfl (by kernel_rfl) (zz.heap.size + 1) 0 rfl (retL ⟨0, 0, 0, false, 0, 0, 0⟩) 38 R4.out (retL (writeR s.pc rd old)).toArray rfl 7 info_ret rfl (by decide) (retL_one _) ?_))
        intro wA bA uA zA
        rw [spl_all (by rfl)] at bA
        go_wp2_with (fail)
        refine bodyPost_ret (results_cell_row rfl _ _ (zz.heap.size + 1) 38 (retL (writeR s.pc rd old)).toArray _ _ rfl bA Tryz.underlying38 rfl info_ret) rfl ⟨by rw [EX.out], ?_⟩
        rw [EX.out, applyM_write]
        exact ⟨M4.out.upd uA (by simp; omega) (by simp; omega) (fun g hg => by have := hown g hg; simp; omega), V4.out.then uA (fun x hx hlt => by simp at hx; omega)⟩
      · have EX : Hid (X = ⟨writeR s.pc rd old, n4, s.csrs.set k n1⟩) := Lib.hid (by rw [HX.out, HN.out, if_neg (by omega)])
        have f0 : ((k : Int) == 0) = false := by rw [beq_eq_false_iff_ne]; omega
        have f2 : ((k : Int) == 2) = false := by rw [beq_eq_false_iff_ne]; omega
        clear hk0 hk2 HX HN hh
        go_wp2_with (first
          | go_skip
          | ((with_reducible refine at_st 70 ?_); refine L_store_int 36 (.tmp 70) (.tmp 66) rfl (by kernel_rfl) rb (33 + k) rfl (mcells s gb tv) 65 M1.out.cell .u32 ((n1 : Nat) : Int) rfl info_u1 (by rw [mcells_len s gb tv hr hc]; omega) ?_))
        intro w2 b2 u2 z2
        rw [mset_csr s gb tv k n1 hr hc hk] at b2
        have M2 : Hid (RfAt rb gb base tv { s with csrs := s.csrs.set k n1 } w2) := Lib.hid (M1.out.set u2 b2 rfl rfl)
        have R2 := Lib.hid (u2.keep R1.out (by simp; omega))
        have I2 := Lib.hid (u2.keep I1.out (by simp; omega))
        have V2 := Lib.hid ((U1.out.mono (T := [rb]) (by simp)).trans u2)
        clear b2 u2 z2 M1 R1 I1 U1 i0 i1 i2 ck
        have hc2 : (s.csrs.set k n1).length = 5 := by rw [List.length_set]; exact hc
        go_wp2_with (first
          | go_skip
          | ((with_reducible refine at_st 76 ?_); refine L_store_int 36 (.tmp 76) (.tmp 73) rfl (by kernel_rfl) rb 0 rfl (mcells { s with csrs := s.csrs.set k n1 } gb tv) 65 M2.out.cell .u32 (n4 : Int) rfl info_u1 (by rw [mcells_len { s with csrs := s.csrs.set k n1 } gb tv hr hc2]; decide) ?_))
        intro w3 b3 u3 z3
        rw [mset_pc] at b3
        have M3 : Hid (RfAt rb gb base tv { s with csrs := s.csrs.set k n1, pc := n4 } w3) := Lib.hid (M2.out.set u3 b3 rfl rfl)
        have R3 := Lib.hid (u3.keep R2.out (by simp; omega))
        have I3 := Lib.hid (u3.keep I2.out (by simp; omega))
        have V3 := Lib.hid (V2.out.trans u3)
        clear b3 u3 z3 M2 R2 I2 V2
        have i1 : w3.cell? ⟨zz.heap.size, 1, none⟩ = some (.int .i64 (rd : Int)) := by rw [cells_of I3.out]; rfl
        go_wp2_with (fail)
        refine (rput_calls rb gb base tv { s with csrs := s.csrs.set k n1, pc := n4 } _ M3.out hr hc2 s.pc rd old hd).mono ?_
        rintro e w4 ⟨rfl, m4, u4⟩
        have M4 := Lib.hid m4
        have R4 := Lib.hid (u4.keep R3.out (by simp; omega))
        have V4 := Lib.hid (V3.out.trans u4)
        clear m4 u4 M3 R3 I3 V3 i1
        go_wp2_with (first
          | go_skip
          | ((with_reducible refine at_st 8 ?_); refine L_store_row 38 (.tmp 8) (.tmp 83) rfl (by kernel_rfl) (zz.heap.size + 1) 0 rfl (retL ⟨0, 0, 0, false, 0, 0, 0⟩) 38 R4.out (retL (writeR s.pc rd old)).toArray rfl 7 info_ret rfl (by decide) (retL_one _) ?_))
        intro wA bA uA zA
        rw [spl_all (by rfl)] at bA
        go_wp2_with (fail)
        refine bodyPost_ret (results_cell_row rfl _ _ (zz.heap.size + 1) 38 (retL (writeR s.pc rd old)).toArray _ _ rfl bA Tryz.underlying38 rfl info_ret) rfl ⟨by rw [EX.out], ?_⟩
        rw [EX.out, applyM_write]
        exact ⟨M4.out.upd uA (by simp; omega) (by simp; omega) (fun g hg => by have := hown g hg; simp; omega), V4.out.then uA (fun x hx hlt => by simp at hx; omega)⟩
    · have HN : Hid (csrF 53 r1 a old = r1) := Lib.hid rfl
      have hn1 := r1l
      generalize r1 = n1 at *
      have hh := high2 n1 hn1
      rcases (by omega : k = 0 ∨ k = 2 ∨ (k ≠ 0 ∧ k ≠ 2)) with hk0 | hk2 | ⟨hk0, hk2⟩
      · have EX : Hid (X = ⟨writeR s.pc rd old, n4, s.csrs.set k (n1 / 4 * 4)⟩) := Lib.hid (by rw [HX.out, HN.out, if_pos (Or.inl hk0)]; rfl)
        have f0 : ((k : Int) == 0) = true := by rw [beq_iff_eq]; omega
        clear hk0 HX HN
        generalize n1 / 4 * 4 = n2 at *
        go_wp2_with (first
          | go_skip
          | ((with_reducible refine at_st 70 ?_); refine L_store_int 36 (.tmp 70) (.tmp 66) rfl (by kernel_rfl) rb (33 + k) rfl (mcells s gb tv) 65 M1.out.cell .u32 ((n2 : Nat) : Int) rfl info_u1 (by rw [mcells_len s gb tv hr hc]; omega) ?_))
        intro w2 b2 u2 z2
        rw [mset_csr s gb tv k n2 hr hc hk] at b2
        have M2 : Hid (RfAt rb gb base tv { s with csrs := s.csrs.set k n2 } w2) := Lib.hid (M1.out.set u2 b2 rfl rfl)
        have R2 := Lib.hid (u2.keep R1.out (by simp; omega))
        have I2 := Lib.hid (u2.keep I1.out (by simp; omega))
        have V2 := Lib.hid ((U1.out.mono (T := [rb]) (by simp)).trans u2)
        clear b2 u2 z2 M1 R1 I1 U1 i0 i1 i2 ck
        have hc2 : (s.csrs.set k n2).length = 5 := by rw [List.length_set]; exact hc
        go_wp2_with (first
          | go_skip
          | ((with_reducible refine at_st 76 ?_); refine L_store_int 36 (.tmp 76) (.tmp 73) rfl (by kernel_rfl) rb 0 rfl (mcells { s with csrs := s.csrs.set k n2 } gb tv) 65 M2.out.cell .u32 (n4 : Int) rfl info_u1 (by rw [mcells_len { s with csrs := s.csrs.set k n2 } gb tv hr hc2]; decide) ?_))
        intro w3 b3 u3 z3
        rw [mset_pc] at b3
        have M3 : Hid (RfAt rb gb base tv { s with csrs := s.csrs.set k n2, pc := n4 } w3) := Lib.hid (M2.out.set u3 b3 rfl rfl)
        have R3 := Lib.hid (u3.keep R2.out (by simp; omega))
        have I3 := Lib.hid (u3.keep I2.out (by simp; omega))
        have V3 := Lib.hid (V2.out.trans u3)
        clear b3 u3 z3 M2 R2 I2 V2
        have i1 : w3.cell? ⟨zz.heap.size, 1, none⟩ = some (.int .i64 (rd : Int)) := by rw [cells_of I3.out]; rfl
        go_wp2_with (fail)
        refine (rput_calls rb gb base tv { s with csrs := s.csrs.set k n2, pc := n4 } _ M3.out hr hc2 s.pc rd old hd).mono ?_
        rintro e w4 ⟨rfl, m4, u4⟩
        have M4 := Lib.hid m4
        have R4 := Lib.hid (u4.keep R3.out (by simp; omega))
        have V4 := Lib.hid (V3.out.trans u4)
        clear m4 u4 M3 R3 I3 V3 i1
        go_wp2_with (first
          | go_skip
          | ((with_reducible refine at_st 8 ?_); refine L_store_row 38 (.tmp 8) (.tmp 83) rfl (by kernel_rfl) (zz.heap.size + 1) 0 rfl (retL ⟨0, 0, 0, false, 0, 0, 0⟩) 38 R4.out (retL (writeR s.pc rd old)).toArray rfl 7 info_ret rfl (by decide) (retL_one _) ?_))
        intro wA bA uA zA
        rw [spl_all (by rfl)] at bA
        go_wp2_with (fail)
        refine bodyPost_ret (results_cell_row rfl _ _ (zz.heap.size + 1) 38 (retL (writeR s.pc rd old)).toArray _ _ rfl bA Tryz.underlying38 rfl info_ret) rfl ⟨by rw [EX.out], ?_⟩
        rw [EX.out, applyM_write]
        exact ⟨M4.out.upd uA (by simp; omega) (by simp; omega) (fun g hg => by have := hown g hg; simp; omega), V4.out.then uA (fun x hx hlt => by simp at hx; omega)⟩
      · have EX : Hid (X = ⟨writeR s.pc rd old, n4, s.csrs.set k (n1 / 4 * 4)⟩) := Lib.hid (by rw [HX.out, HN.out, if_pos (Or.inr hk2)]; rfl)
        have f0 : ((k : Int) == 0) = false := by rw [beq_eq_false_iff_ne]; omega
        have f2 : ((k : Int) == 2) = true := by rw [beq_iff_eq]; omega
        clear hk2 HX HN
        generalize n1 / 4 * 4 = n2 at *
        go_wp2_with (first
          | go_skip
          | ((with_reducible refine at_st 70 ?_); refine L_store_int 36 (.tmp 70) (.tmp 66) rfl (by kernel_rfl) rb (33 + k) rfl (mcells s gb tv) 65 M1.out.cell .u32 ((n2 : Nat) : Int) rfl info_u1 (by rw [mcells_len s gb tv hr hc]; omega) ?_))
        intro w2 b2 u2 z2
        rw [mset_csr s gb tv k n2 hr hc hk] at b2
        have M2 : Hid (RfAt rb gb base tv { s with csrs := s.csrs.set k n2 } w2) := Lib.hid (M1.out.set u2 b2 rfl rfl)
        have R2 := Lib.hid (u2.keep R1.out (by simp; omega))
        have I2 := Lib.hid (u2.keep I1.out (by simp; omega))
        have V2 := Lib.hid ((U1.out.mono (T := [rb]) (by simp)).trans u2)
        clear b2 u2 z2 M1 R1 I1 U1 i0 i1 i2 ck
        have hc2 : (s.csrs.set k n2).length = 5 := by rw [List.length_set]; exact hc
        go_wp2_with (first
          | go_skip
          | ((with_reducible refine at_st 76 ?_); refine L_store_int 36 (.tmp 76) (.tmp 73) rfl (by kernel_rfl) rb 0 rfl (mcells { s with csrs := s.csrs.set k n2 } gb tv) 65 M2.out.cell .u32 (n4 : Int) rfl info_u1 (by rw [mcells_len { s with csrs := s.csrs.set k n2 } gb tv hr hc2]; decide) ?_))
        intro w3 b3 u3 z3
        rw [mset_pc] at b3
        have M3 : Hid (RfAt rb gb base tv { s with csrs := s.csrs.set k n2, pc := n4 } w3) := Lib.hid (M2.out.set u3 b3 rfl rfl)
        have R3 := Lib.hid (u3.keep R2.out (by simp; omega))
        have I3 := Lib.hid (u3.keep I2.out (by simp; omega))
        have V3 := Lib.hid (V2.out.trans u3)
        clear b3 u3 z3 M2 R2 I2 V2
        have i1 : w3.cell? ⟨zz.heap.size, 1, none⟩ = some (.int .i64 (rd : Int)) := by rw [cells_of I3.out]; rfl
        go_wp2_with (fail)
        refine (rput_calls rb gb base tv { s with csrs := s.csrs.set k n2, pc := n4 } _ M3.out hr hc2 s.pc rd old hd).mono ?_
        rintro e w4 ⟨rfl, m4, u4⟩
        have M4 := Lib.hid m4
        have R4 := Lib.hid (u4.keep R3.out (by simp; omega))
        have V4 := Lib.hid (V3.out.trans u4)
        clear m4 u4 M3 R3 I3 V3 i1
        go_wp2_with (first
          | go_skip
          | ((with_reducible refine at_st 8 ?_); refine L_store_row 38 (.tmp 8) (.tmp 83) rfl (by kernel_rfl) (zz.heap.size + 1) 0 rfl (retL ⟨0, 0, 0, false, 0, 0, 0⟩) 38 R4.out (retL (writeR s.pc rd old)).toArray rfl 7 info_ret rfl (by decide) (retL_one _) ?_))
        intro wA bA uA zA
        rw [spl_all (by rfl)] at bA
        go_wp2_with (fail)
        refine bodyPost_ret (results_cell_row rfl _ _ (zz.heap.size + 1) 38 (retL (writeR s.pc rd old)).toArray _ _ rfl bA Tryz.underlying38 rfl info_ret) rfl ⟨by rw [EX.out], ?_⟩
        rw [EX.out, applyM_write]
        exact ⟨M4.out.upd uA (by simp; omega) (by simp; omega) (fun g hg => by have := hown g hg; simp; omega), V4.out.then uA (fun x hx hlt => by simp at hx; omega)⟩
      · have EX : Hid (X = ⟨writeR s.pc rd old, n4, s.csrs.set k n1⟩) := Lib.hid (by rw [HX.out, HN.out, if_neg (by omega)])
        have f0 : ((k : Int) == 0) = false := by rw [beq_eq_false_iff_ne]; omega
        have f2 : ((k : Int) == 2) = false := by rw [beq_eq_false_iff_ne]; omega
        clear hk0 hk2 HX HN hh
        go_wp2_with (first
          | go_skip
          | ((with_reducible refine at_st 70 ?_); refine L_store_int 36 (.tmp 70) (.tmp 66) rfl (by kernel_rfl) rb (33 + k) rfl (mcells s gb tv) 65 M1.out.cell .u32 ((n1 : Nat) : Int) rfl info_u1 (by rw [mcells_len s gb tv hr hc]; omega) ?_))
        intro w2 b2 u2 z2
        rw [mset_csr s gb tv k n1 hr hc hk] at b2
        have M2 : Hid (RfAt rb gb base tv { s with csrs := s.csrs.set k n1 } w2) := Lib.hid (M1.out.set u2 b2 rfl rfl)
        have R2 := Lib.hid (u2.keep R1.out (by simp; omega))
        have I2 := Lib.hid (u2.keep I1.out (by simp; omega))
        have V2 := Lib.hid ((U1.out.mono (T := [rb]) (by simp)).trans u2)
        clear b2 u2 z2 M1 R1 I1 U1 i0 i1 i2 ck
        have hc2 : (s.csrs.set k n1).length = 5 := by rw [List.length_set]; exact hc
        go_wp2_with (first
          | go_skip
          | ((with_reducible refine at_st 76 ?_); refine L_store_int 36 (.tmp 76) (.tmp 73) rfl (by kernel_rfl) rb 0 rfl (mcells { s with csrs := s.csrs.set k n1 } gb tv) 65 M2.out.cell .u32 (n4 : Int) rfl info_u1 (by rw [mcells_len { s with csrs := s.csrs.set k n1 } gb tv hr hc2]; decide) ?_))
        intro w3 b3 u3 z3
        rw [mset_pc] at b3
        have M3 : Hid (RfAt rb gb base tv { s with csrs := s.csrs.set k n1, pc := n4 } w3) := Lib.hid (M2.out.set u3 b3 rfl rfl)
        have R3 := Lib.hid (u3.keep R2.out (by simp; omega))
        have I3 := Lib.hid (u3.keep I2.out (by simp; omega))
        have V3 := Lib.hid (V2.out.trans u3)
        clear b3 u3 z3 M2 R2 I2 V2
        have i1 : w3.cell? ⟨zz.heap.size, 1, none⟩ = some (.int .i64 (rd : Int)) := by rw [cells_of I3.out]; rfl
        go_wp2_with (fail)
        refine (rput_calls rb gb base tv { s with csrs := s.csrs.set k n1, pc := n4 } _ M3.out hr hc2 s.pc rd old hd).mono ?_
        rintro e w4 ⟨rfl, m4, u4⟩
        have M4 := Lib.hid m4
        have R4 := Lib.hid (u4.keep R3.out (by simp; omega))
        have V4 := Lib.hid (V3.out.trans u4)
        clear m4 u4 M3 R3 I3 V3 i1
        go_wp2_with (first
          | go_skip
          | ((with_reducible refine at_st 8 ?_); refine L_store_row 38 (.tmp 8) (.tmp 83) rfl (by kernel_rfl) (zz.heap.size + 1) 0 rfl (retL ⟨0, 0, 0, false, 0, 0, 0⟩) 38 R4.out (retL (writeR s.pc rd old)).toArray rfl 7 info_ret rfl (by decide) (retL_one _) ?_))
        intro wA bA uA zA
        rw [spl_all (by rfl)] at bA
        go_wp2_with (fail)
        refine bodyPost_ret (results_cell_row rfl _ _ (zz.heap.size + 1) 38 (retL (writeR s.pc rd old)).toArray _ _ rfl bA Tryz.underlying38 rfl info_ret) rfl ⟨by rw [EX.out], ?_⟩
        rw [EX.out, applyM_write]
        exact ⟨M4.out.upd uA (by simp; omega) (by simp; omega) (fun g hg => by have := hown g hg; simp; omega), V4.out.then uA (fun x hx hlt => by simp at hx; omega)⟩
    · have HN : Hid (csrF 54 r1 a old = old ||| r1) := Lib.hid rfl
      have hn1 := Nat.or_lt_two_pow hol r1l
      have hb := or32 old r1 hol r1l
      generalize old ||| r1 = n1 at *
      have hh := high2 n1 hn1
      rcases (by omega : k = 0 ∨ k = 2 ∨ (k ≠ 0 ∧ k ≠ 2)) with hk0 | hk2 | ⟨hk0, hk2⟩
      · have EX : Hid (X = ⟨writeR s.pc rd old, n4, s.csrs.set k (n1 / 4 * 4)⟩) := Lib.hid (by rw [HX.out, HN.out, if_pos (Or.inl hk0)]; rfl)
        have f0 : ((k : Int) == 0) = true := by rw [beq_iff_eq]; omega
        clear hk0 HX HN
        generalize n1 / 4 * 4 = n2 at *
        go_wp2_with (first
          | go_skip
          | ((with_reducible refine at_st 70 ?_); refine L_store_int 36 (.tmp 70) (.tmp 66) rfl (by kernel_rfl) rb (33 + k) rfl (mcells s gb tv) 65 M1.out.cell .u32 ((n2 : Nat) : Int) rfl info_u1 (by rw [mcells_len s gb tv hr hc]; omega) ?_))
        intro w2 b2 u2 z2
        rw [mset_csr s gb tv k n2 hr hc hk] at b2
        have M2 : Hid (RfAt rb gb base tv { s with csrs := s.csrs.set k n2 } w2) := Lib.hid (M1.out.set u2 b2 rfl rfl)
        have R2 := Lib.hid (u2.keep R1.out (by simp; omega))
        have I2 := Lib.hid (u2.keep I1.out (by simp; omega))
        have V2 := Lib.hid ((U1.out.mono (T := [rb]) (by simp)).trans u2)
        clear b2 u2 z2 M1 R1 I1 U1 i0 i1 i2 ck
        have hc2 : (s.csrs.set k n2).length = 5 := by rw [List.length_set]; exact hc
        go_wp2_with (first
          | go_skip
          | ((with_reducible refine at_st 76 ?_); refine L_store_int 36 (.tmp 76) (.tmp 73) rfl (by kernel_rfl) rb 0 rfl (mcells { s with csrs := s.csrs.set k n2 } gb tv) 65 M2.out.cell .u32 (n4 : Int) rfl info_u1 (by rw [mcells_len { s with csrs := s.csrs.set k n2 } gb tv hr hc2]; decide) ?_))
        intro w3 b3 u3 z3
        rw [mset_pc] at b3
        have M3 : Hid (RfAt rb gb base tv { s with csrs := s.csrs.set k n2, pc := n4 } w3) := Lib.hid (M2.out.set u3 b3 rfl rfl)
        have R3 := Lib.hid (u3.keep R2.out (by simp; omega))
        have I3 := Lib.hid (u3.keep I2.out (by simp; omega))
        have V3 := Lib.hid (V2.out.trans u3)
        clear b3 u3 z3 M2 R2 I2 V2
        have i1 : w3.cell? ⟨zz.heap.size, 1, none⟩ = some (.int .i64 (rd : Int)) := by rw [cells_of I3.out]; rfl
        go_wp2_with (fail)
        refine (rput_calls rb gb base tv { s with csrs := s.csrs.set k n2, pc := n4 } _ M3.out hr hc2 s.pc rd old hd).mono ?_
        rintro e w4 ⟨rfl, m4, u4⟩
        have M4 := Lib.hid m4
        have R4 := Lib.hid (u4.keep R3.out (by simp; omega))
        have V4 := Lib.hid (V3.out.trans u4)
        clear m4 u4 M3 R3 I3 V3 i1
        go_wp2_with (first
          | go_skip
          | ((with_reducible refine at_st 8 ?_); refine L_store_row 38 (.tmp 8) (.tmp 83) rfl (by kernel_rfl) (zz.heap.size + 1) 0 rfl (retL ⟨0, 0, 0, false, 0, 0, 0⟩) 38 R4.out (retL (writeR s.pc rd old)).toArray rfl 7 info_ret rfl (by decide) (retL_one _) ?_))
        intro wA bA uA zA
        rw [spl_all (by rfl)] at bA
        go_wp2_with (fail)
        refine bodyPost_ret (results_cell_row rfl _ _ (zz.heap.size + 1) 38 (retL (writeR s.pc rd old)).toArray _ _ rfl bA Tryz.underlying38 rfl info_ret) rfl ⟨by rw [EX.out], ?_⟩
        rw [EX.out, applyM_write]
        exact ⟨M4.out.upd uA (by simp; omega) (by simp; omega) (fun g hg => by have := hown g hg; simp; omega), V4.out.then uA (fun x hx hlt => by simp at hx; omega)⟩
      · have EX : Hid (X = ⟨writeR s.pc rd old, n4, s.csrs.set k (n1 / 4 * 4)⟩) := Lib.hid (by rw [HX.out, HN.out, if_pos (Or.inr hk2)]; rfl)
        have f0 : ((k : Int) == 0) = false := by rw [beq_eq_false_iff_ne]; omega
        have f2 : ((k : Int) == 2) = true := by rw [beq_iff_eq]; omega
        clear hk2 HX HN
        generalize n1 / 4 * 4 = n2 at *
        go_wp2_with (first
          | go_skip
          | ((with_reducible refine at_st 70 ?_); refine L_store_int 36 (.tmp 70) (.tmp 66) rfl (by kernel_rfl) rb (33 + k) rfl (mcells s gb tv) 65 M1.out.cell .u32 ((n2 : Nat) : Int) rfl info_u1 (by rw [mcells_len s gb tv hr hc]; omega) ?_))
        intro w2 b2 u2 z2
        rw [mset_csr s gb tv k n2 hr hc hk] at b2
        have M2 : Hid (RfAt rb gb base tv { s with csrs := s.csrs.set k n2 } w2) := Lib.hid (M1.out.set u2 b2 rfl rfl)
        have R2 := Lib.hid (u2.keep R1.out (by simp; omega))
        have I2 := Lib.hid (u2.keep I1.out (by simp; omega))
        have V2 := Lib.hid ((U1.out.mono (T := [rb]) (by simp)).trans u2)
        clear b2 u2 z2 M1 R1 I1 U1 i0 i1 i2 ck
        have hc2 : (s.csrs.set k n2).length = 5 := by rw [List.length_set]; exact hc
        go_wp2_with (first
          | go_skip
          | ((with_reducible refine at_st 76 ?_); refine L_store_int 36 (.tmp 76) (.tmp 73) rfl (by kernel_rfl) rb 0 rfl (mcells { s with csrs := s.csrs.set k n2 } gb tv) 65 M2.out.cell .u32 (n4 : Int) rfl info_u1 (by rw [mcells_len { s with csrs := s.csrs.set k n2 } gb tv hr hc2]; decide) ?_))
        intro w3 b3 u3 z3
        rw [mset_pc] at b3
        have M3 : Hid (RfAt rb gb base tv { s with csrs := s.csrs.set k n2, pc := n4 } w3) := Lib.hid (M2.out.set u3 b3 rfl rfl)
        have R3 := Lib.hid (u3.keep R2.out (by simp; omega))
        have I3 := Lib.hid (u3.keep I2.out (by simp; omega))
        have V3 := Lib.hid (V2.out.trans u3)
        clear b3 u3 z3 M2 R2 I2 V2
        have i1 : w3.cell? ⟨zz.heap.size, 1, none⟩ = some (.int .i64 (rd : Int)) := by rw [cells_of I3.out]; rfl
        go_wp2_with (fail)
        refine (rput_calls rb gb base tv { s with csrs := s.csrs.set k n2, pc := n4 } _ M3.out hr hc2 s.pc rd old hd).mono ?_
        rintro e w4 ⟨rfl, m4, u4⟩
        have M4 := Lib.hid m4
        have R4 := Lib.hid (u4.keep R3.out (by simp; omega))
        have V4 := Lib.hid (V3.out.trans u4)
        clear m4 u4 M3 R3 I3 V3 i1
        go_wp2_with (first
          | go_skip
          | ((with_reducible refine at_st 8 ?_); refine L_store_row 38 (.tmp 8) (.tmp 83) rfl (by kernel_rfl) (zz.heap.size + 1) 0 rfl (retL ⟨0, 0, 0, false, 0, 0, 0⟩) 38 R4.out (retL (writeR s.pc rd old)).toArray rfl 7 info_ret rfl (by decide) (retL_one _) ?_))
        intro wA bA uA zA
        rw [spl_all (by rfl)] at bA
        go_wp2_with (fail)
        refine bodyPost_ret (results_cell_row rfl _ _ (zz.heap.size + 1) 38 (retL (writeR s.pc rd old)).toArray _ _ rfl bA Tryz.underlying38 rfl info_ret) rfl ⟨by rw [EX.out], ?_⟩
        rw [EX.out, applyM_write]
        exact ⟨M4.out.upd uA (by simp; omega) (by simp; omega) (fun g hg => by have := hown g hg; simp; omega), V4.out.then uA (fun x hx hlt => by simp at hx; omega)⟩
      · have EX : Hid (X = ⟨writeR s.pc rd old, n4, s.csrs.set k n1⟩) := Lib.hid (by rw [HX.out, HN.out, if_neg (by omega)])
        have f0 : ((k : Int) == 0) = false := by rw [beq_eq_false_iff_ne]; omega
        have f2 : ((k : Int) == 2) = false := by rw [beq_eq_false_iff_ne]; omega
        clear hk0 hk2 HX HN hh
        go_wp2_with (first
          | go_skip
          | ((with_reducible refine at_st 70 ?_); refine L_store_int 36 (.tmp 70) (.tmp 66) rfl (by kernel_rfl) rb (33 + k) rfl (mcells s gb tv) 65 M1.out.cell .u32 ((n1 : Nat) : Int) rfl info_u1 (by rw [mcells_len s gb tv hr hc]; omega) ?_))
        intro w2 b2 u2 z2
        rw [mset_csr s gb tv k n1 hr hc hk] at b2
        have M2 : Hid (RfAt rb gb base tv { s with csrs := s.csrs.set k n1 } w2) := Lib.hid (M1.out.set u2 b2 rfl rfl)
        have R2 := Lib.hid (u2.keep R1.out (by simp; omega))
        have I2 := Lib.hid (u2.keep I1.out (by simp; omega))
        have V2 := Lib.hid ((U1.out.mono (T := [rb]) (by simp)).trans u2)
        clear b2 u2 z2 M1 R1 I1 U1 i0 i1 i2 ck
        have hc2 : (s.csrs.set k n1).length = 5 := by rw [List.length_set]; exact hc
        go_wp2_with (first
          | go_skip
          | ((with_reducible refine at_st 76 ?_); refine L_store_int 36 (.tmp 76) (.tmp 73) rfl (by kernel_rfl) rb 0 rfl (mcells { s with csrs := s.csrs.set k n1 } gb tv) 65 M2.out.cell .u32 (n4 : Int) rfl info_u1 (by rw [mcells_len { s with csrs := s.csrs.set k n1 } gb tv hr hc2]; decide) ?_))
        intro w3 b3 u3 z3
        rw [mset_pc] at b3
        have M3 : Hid (RfAt rb gb base tv { s with csrs := s.csrs.set k n1, pc := n4 } w3) := Lib.hid (M2.out.set u3 b3 rfl rfl)
        have R3 := Lib.hid (u3.keep R2.out (by simp; omega))
        have I3 := Lib.hid (u3.keep I2.out (by simp; omega))
        have V3 := Lib.hid (V2.out.trans u3)
        clear b3 u3 z3 M2 R2 I2 V2
        have i1 : w3.cell? ⟨zz.heap.size, 1, none⟩ = some (.int .i64 (rd : Int)) := by rw [cells_of I3.out]; rfl
        go_wp2_with (fail)
        refine (rput_calls rb gb base tv { s with csrs := s.csrs.set k n1, pc := n4 } _ M3.out hr hc2 s.pc rd old hd).mono ?_
        rintro e w4 ⟨rfl, m4, u4⟩
        have M4 := Lib.hid m4
        have R4 := Lib.hid (u4.keep R3.out (by simp; omega))
        have V4 := Lib.hid (V3.out.trans u4)
        clear m4 u4 M3 R3 I3 V3 i1
        go_wp2_with (first
          | go_skip
          | ((with_reducible refine at_st 8 ?_); refine L_store_row 38 (.tmp 8) (.tmp 83) rfl (by kernel_rfl) (zz.heap.size + 1) 0 rfl (retL ⟨0, 0, 0, false, 0, 0, 0⟩) 38 R4.out (retL (writeR s.pc rd old)).toArray rfl 7 info_ret rfl (by decide) (retL_one _) ?_))
        intro wA bA uA zA
        rw [spl_all (by rfl)] at bA
        go_wp2_with (fail)
        refine bodyPost_ret (results_cell_row rfl _ _ (zz.heap.size + 1) 38 (retL (writeR s.pc rd old)).toArray _ _ rfl bA Tryz.underlying38 rfl info_ret) rfl ⟨by rw [EX.out], ?_⟩
        rw [EX.out, applyM_write]
        exact ⟨M4.out.upd uA (by simp; omega) (by simp; omega) (fun g hg => by have := hown g hg; simp; omega), V4.out.then uA (fun x hx hlt => by simp at hx; omega)⟩
    · have HN : Hid (csrF 55 r1 a old = old &&& (4294967295 ^^^ r1)) := Lib.hid rfl
      have hn1 := Nat.lt_of_le_of_lt (Nat.and_le_left (n := old) (m := (4294967295 ^^^ r1))) hol
      have hb := andnot32 old r1 hol r1l
      generalize old &&& (4294967295 ^^^ r1) = n1 at *
      have hh := high2 n1 hn1
      rcases (by omega : k = 0 ∨ k = 2 ∨ (k ≠ 0 ∧ k ≠ 2)) with hk0 | hk2 | ⟨hk0, hk2⟩
      · have EX : Hid (X = ⟨writeR s.pc rd old, n4, s.csrs.set k (n1 / 4 * 4)⟩) := Lib.hid (by rw [HX.out, HN.out, if_pos (Or.inl hk0)]; rfl)
        have f0 : ((k : Int) == 0) = true := by rw [beq_iff_eq]; omega
        clear hk0 HX HN
        generalize n1 / 4 * 4 = n2 at *
        go_wp2_with (first
          | go_skip
          | ((with_reducible refine at_st 70 ?_); refine L_store_int 36 (.tmp 70) (.tmp 66) rfl (by kernel_rfl) rb (33 + k) rfl (mcells s gb tv) 65 M1.out.cell .u32 ((n2 : Nat) : Int) rfl info_u1 (by rw [mcells_len s gb tv hr hc]; omega) ?_))
        intro w2 b2 u2 z2
        rw [mset_csr s gb tv k n2 hr hc hk] at b2
        have M2 : Hid (RfAt rb gb base tv { s with csrs := s.csrs.set k n2 } w2) := Lib.hid (M1.out.set u2 b2 rfl rfl)
        have R2 := Lib.hid (u2.keep R1.out (by simp; omega))
        have I2 := Lib.hid (u2.keep I1.out (by simp; omega))
        have V2 := Lib.hid ((U1.out.mono (T := [rb]) (by simp)).trans u2)
        clear b2 u2 z2 M1 R1 I1 U1 i0 i1 i2 ck
        have hc2 : (s.csrs.set k n2).length = 5 := by rw [List.length_set]; exact hc
        go_wp2_with (first
          | go_skip
          | ((with_reducible refine at_st 76 ?_); refine L_store_int 36 (.tmp 76) (.tmp 73) rfl (by kernel_rfl) rb 0 rfl (mcells { s with csrs := s.csrs.set k n2 } gb tv) 65 M2.out.cell .u32 (n4 : Int) rfl info_u1 (by rw [mcells_len { s with csrs := s.csrs.set k n2 } gb tv hr hc2]; decide) ?_))
        intro w3 b3 u3 z3
        rw [mset_pc] at b3
        have M3 : Hid (RfAt rb gb base tv { s with csrs := s.csrs.set k n2, pc := n4 } w3) := Lib.hid (M2.out.set u3 b3 rfl rfl)
        have R3 := Lib.hid (u3.keep R2.out (by simp; omega))
        have I3 := Lib.hid (u3.keep I2.out (by simp; omega))
        have V3 := Lib.hid (V2.out.trans u3)
        clear b3 u3 z3 M2 R2 I2 V2
        have i1 : w3.cell? ⟨zz.heap.size, 1, none⟩ = some (.int .i64 (rd : Int)) := by rw [cells_of I3.out]; rfl
        go_wp2_with (fail)
        refine (rput_calls rb gb base tv { s with csrs := s.csrs.set k n2, pc := n4 } _ M3.out hr hc2 s.pc rd old hd).mono ?_
        rintro e w4 ⟨rfl, m4, u4⟩
        have M4 := Lib.hid m4
        have R4 := Lib.hid (u4.keep R3.out (by simp; omega))
        have V4 := Lib.hid (V3.out.trans u4)
        clear m4 u4 M3 R3 I3 V3 i1
        go_wp2_with (first
          | go_skip
          | ((with_reducible refine at_st 8 ?_); refine L_store_row 38 (.tmp 8) (.tmp 83) rfl (by kernel_rfl) (zz.heap.size + 1) 0 rfl (retL ⟨0, 0, 0, false, 0, 0, 0⟩) 38 R4.out (retL (writeR s.pc rd old)).toArray rfl 7 info_ret rfl (by decide) (retL_one _) ?_))
        intro wA bA uA zA
        rw [spl_all (by rfl)] at bA
        go_wp2_with (fail)
        refine bodyPost_ret (results_cell_row rfl _ _ (zz.heap.size + 1) 38 (retL (writeR s.pc rd old)).toArray _ _ rfl bA Tryz.underlying38 rfl info_ret) rfl ⟨by rw [EX.out], ?_⟩
        rw [EX.out, applyM_write]
        exact ⟨M4.out.upd uA (by simp; omega) (by simp; omega) (fun g hg => by have := hown g hg; simp; omega), V4.out.then uA (fun x hx hlt => by simp at hx; omega)⟩
      · have EX : Hid (X = ⟨writeR s.pc rd old, n4, s.csrs.set k (n1 / 4 * 4)⟩) := Lib.hid (by rw [HX.out, HN.out, if_pos (Or.inr hk2)]; rfl)
        have f0 : ((k : Int) == 0) = false := by rw [beq_eq_false_iff_ne]; omega
        have f2 : ((k : Int) == 2) = true := by rw [beq_iff_eq]; omega
        clear hk2 HX HN
        generalize n1 / 4 * 4 = n2 at *
        go_wp2_with (first
          | go_skip
          | ((with_reducible refine at_st 70 ?_); refine L_store_int 36 (.tmp 70) (.tmp 66) rfl (by kernel_rfl) rb (33 + k) rfl (mcells s gb tv) 65 M1.out.cell .u32 ((n2 : Nat) : Int) rfl info_u1 (by rw [mcells_len s gb tv hr hc]; omega) ?_))
        intro w2 b2 u2 z2
        rw [mset_csr s gb tv k n2 hr hc hk] at b2
        have M2 : Hid (RfAt rb gb base tv { s with csrs := s.csrs.set k n2 } w2) := Lib.hid (M1.out.set u2 b2 rfl rfl)
        have R2 := Lib.hid (u2.keep R1.out (by simp; omega))
        have I2 := Lib.hid (u2.keep I1.out (by simp; omega))
        have V2 := Lib.hid ((U1.out.mono (T := [rb]) (by simp)).trans u2)
        clear b2 u2 z2 M1 R1 I1 U1 i0 i1 i2 ck
        have hc2 : (s.csrs.set k n2).length = 5 := by rw [List.length_set]; exact hc
        go_wp2_with (first
          | go_skip
          | ((with_reducible refine at_st 76 ?_); refine L_store_int 36 (.tmp 76) (.tmp 73) rfl (by kernel_rfl) rb 0 rfl (mcells { s with csrs := s.csrs.set k n2 } gb tv) 65 M2.out.cell .u32 (n4 : Int) rfl info_u1 (by rw [mcells_len { s with csrs := s.csrs.set k n2 } gb tv hr hc2]; decide) ?_))
        intro w3 b3 u3 z3
        rw [mset_pc] at b3
        have M3 : Hid (RfAt rb gb base tv { s with csrs := s.csrs.set k n2, pc := n4 } w3) := Lib.hid (M2.out.set u3 b3 rfl rfl)
        have R3 := Lib.hid (u3.keep R2.out (by simp; omega))
        have I3 := Lib.hid (u3.keep I2.out (by simp; omega))
        have V3 := Lib.hid (V2.out.trans u3)
        clear b3 u3 z3 M2 R2 I2 V2
        have i1 : w3.cell? ⟨zz.heap.size, 1, none⟩ = some (.int .i64 (rd : Int)) := by rw [cells_of I3.out]; rfl
        go_wp2_with (fail)
        refine (rput_calls rb gb base tv { s with csrs := s.csrs.set k n2, pc := n4 } _ M3.out hr hc2 s.pc rd old hd).mono ?_
        rintro e w4 ⟨rfl, m4, u4⟩
        have M4 := Lib.hid m4
        have R4 := Lib.hid (u4.keep R3.out (by simp; omega))
        have V4 := Lib.hid (V3.out.trans u4)
        clear m4 u4 M3 R3 I3 V3 i1
        go_wp2_with (first
          | go_skip
          | ((with_reducible refine at_st 8 ?_); refine L_store_row 38 (.tmp 8) (.tmp 83) rfl (by kernel_rfl) (zz.heap.size + 1) 0 rfl (retL ⟨0, 0, 0, false, 0, 0, 0⟩) 38 R4.out (retL (writeR s.pc rd old)).toArray rfl 7 info_ret rfl (by decide) (retL_one _) ?_))
        intro wA bA uA zA
        rw [spl_all (by rfl)] at bA
        go_wp2_with (fail)
        refine bodyPost_ret (results_cell_row rfl _ _ (zz.heap.size + 1) 38 (retL (writeR s.pc rd old)).toArray _ _ rfl bA Tryz.underlying38 rfl info_ret) rfl ⟨by rw [EX.out], ?_⟩
        rw [EX.out, applyM_write]
        exact ⟨M4.out.upd uA (by simp; omega) (by simp; omega) (fun g hg => by have := hown g hg; simp; omega), V4.out.then uA (fun x hx hlt => by simp at hx; omega)⟩
      · have EX : Hid (X = ⟨writeR s.pc rd old, n4, s.csrs.set k n1⟩) := Lib.hid (by rw [HX.out, HN.out, if_neg (by omega)])
        have f0 : ((k : Int) == 0) = false := by rw [beq_eq_false_iff_ne]; omega
        have f2 : ((k : Int) == 2) = false := by rw [beq_eq_false_iff_ne]; omega
        clear hk0 hk2 HX HN hh
        go_wp2_with (first
          | go_skip
          | ((with_reducible refine at_st 70 ?_); refine L_store_int 36 (.tmp 70) (.tmp 66) rfl (by kernel_rfl) rb (33 + k) rfl (mcells s gb tv) 65 M1.out.cell .u32 ((n1 : Nat) : Int) rfl info_u1 (by rw [mcells_len s gb tv hr hc]; omega) ?_))
        intro w2 b2 u2 z2
        rw [mset_csr s gb tv k n1 hr hc hk] at b2
        have M2 : Hid (RfAt rb gb base tv { s with csrs := s.csrs.set k n1 } w2) := Lib.hid (M1.out.set u2 b2 rfl rfl)
        have R2 := Lib.hid (u2.keep R1.out (by simp; omega))
        have I2 := Lib.hid (u2.keep I1.out (by simp; omega))
        have V2 := Lib.hid ((U1.out.mono (T := [rb]) (by simp)).trans u2)
        clear b2 u2 z2 M1 R1 I1 U1 i0 i1 i2 ck
        have hc2 : (s.csrs.set k n1).length = 5 := by rw [List.length_set]; exact hc
        go_wp2_with (first
          | go_skip
          | ((with_reducible refine at_st 76 ?_); refine L_store_int 36 (.tmp 76) (.tmp 73) rfl (by kernel_rfl) rb 0 rfl (mcells { s with csrs := s.csrs.set k n1 } gb tv) 65 M2.out.cell .u32 (n4 : Int) rfl info_u1 (by rw [mcells_len { s with csrs := s.csrs.set k n1 } gb tv hr hc2]; decide) ?_))
        intro w3 b3 u3 z3
        rw [mset_pc] at b3
        have M3 : Hid (RfAt rb gb base tv { s with csrs := s.csrs.set k n1, pc := n4 } w3) := Lib.hid (M2.out.set u3 b3 rfl rfl)
        have R3 := Lib.hid (u3.keep R2.out (by simp; omega))
        have I3 := Lib.hid (u3.keep I2.out (by simp; omega))
        have V3 := Lib.hid (V2.out.trans u3)
        clear b3 u3 z3 M2 R2 I2 V2
        have i1 : w3.cell? ⟨zz.heap.size, 1, none⟩ = some (.int .i64 (rd : Int)) := by rw [cells_of I3.out]; rfl
        go_wp2_with (fail)
        refine (rput_calls rb gb base tv { s with csrs := s.csrs.set k n1, pc := n4 } _ M3.out hr hc2 s.pc rd old hd).mono ?_
        rintro e w4 ⟨rfl, m4, u4⟩
        have M4 := Lib.hid m4
        have R4 := Lib.hid (u4.keep R3.out (by simp; omega))
        have V4 := Lib.hid (V3.out.trans u4)
        clear m4 u4 M3 R3 I3 V3 i1
        go_wp2_with (first
          | go_skip
          | ((with_reducible refine at_st 8 ?_); refine L_store_row 38 (.tmp 8) (.tmp 83) rfl (by kernel_rfl) (zz.heap.size + 1) 0 rfl (retL ⟨0, 0, 0, false, 0, 0, 0⟩) 38 R4.out (retL (writeR s.pc rd old)).toArray rfl 7 info_ret rfl (by decide) (retL_one _) ?_))
        intro wA bA uA zA
        rw [spl_all (by rfl)] at bA
        go_wp2_with (fail)
        refine bodyPost_ret (results_cell_row rfl _ _ (zz.heap.size + 1) 38 (retL (writeR s.pc rd old)).toArray _ _ rfl bA Tryz.underlying38 rfl info_ret) rfl ⟨by rw [EX.out], ?_⟩
        rw [EX.out, applyM_write]
        exact ⟨M4.out.upd uA (by simp; omega) (by simp; omega) (fun g hg => by have := hown g hg; simp; omega), V4.out.then uA (fun x hx hlt => by simp at hx; omega)⟩
end Go.Proofs.YtggjmdgonjhioaaGreat

namespace Go.Proofs.YtggjmdgonjhioaaGreat
open Go.RowKit Go.Dio
set_option linter.unusedSimpArgs false
set_option linter.unusedVariables false

def U1 (op : Nat) : Prop := (4 ≤ op ∧ op ≤ 45) ∨ 50 ≤ op
def U2 (op : Nat) : Prop := (5 ≤ op ∧ op ≤ 10) ∨ (16 ≤ op ∧ op ≤ 18) ∨ (28 ≤ op ∧ op ≤ 45)
structure UseI (x y : Nat) (i : InstV) : Prop where
  u1 : U1 i.op → i.r1 = x
  u2 : U2 i.op → i.r2 = y
  u3 : 50 ≤ i.op → 0 ≤ i.imm ∧ i.imm < 4096
theorem UseI.no (x y : Nat) : UseI x y noI := ⟨fun h => by unfold U1 noI at h; simp at h, fun h => by unfold U2 noI at h; simp at h, fun h => by unfold noI at h; simp at h⟩
theorem UseI.withI {x y o : Nat} {i : InstV} (h : o ≠ 0 → UseI x y { i with op := o }) : UseI x y (withI o i) := by
  unfold Go.Proofs.YtggjmdgonjhioaaGreat.withI
  by_cases h0 : o = 0
  · rw [if_pos h0]; exact UseI.no x y
  · rw [if_neg h0]; exact h h0
theorem nthP {P : Nat → Prop} {l : List Nat} (h0 : P 0) (h : ∀ x ∈ l, P x) (k : Nat) : P (nth l k) := by
  by_cases hk : k < l.length
  · rw [nth_eq l k hk]; exact h _ (List.getElem_mem hk)
  · rw [show nth l k = 0 by simp [nth, show l.length ≤ k by omega]]; exact h0
theorem opB_in (f : Nat) : opB f = 0 ∨ (5 ≤ opB f ∧ opB f ≤ 10) := nthP (P := fun v => v = 0 ∨ (5 ≤ v ∧ v ≤ 10)) (by decide) (by decide) f
theorem opL_in (f : Nat) : opL f = 0 ∨ (11 ≤ opL f ∧ opL f ≤ 15) := nthP (P := fun v => v = 0 ∨ (11 ≤ v ∧ v ≤ 15)) (by decide) (by decide) f
theorem opS_in (f : Nat) : opS f = 0 ∨ (16 ≤ opS f ∧ opS f ≤ 18) := nthP (P := fun v => v = 0 ∨ (16 ≤ v ∧ v ≤ 18)) (by decide) (by decide) f
theorem opI_in (f : Nat) : opI f = 0 ∨ (19 ≤ opI f ∧ opI f ≤ 24) := nthP (P := fun v => v = 0 ∨ (19 ≤ v ∧ v ≤ 24)) (by decide) (by decide) f
theorem opC_in (f : Nat) : opC f = 0 ∨ (50 ≤ opC f ∧ opC f ≤ 55) := nthP (P := fun v => v = 0 ∨ (50 ≤ v ∧ v ≤ 55)) (by decide) (by decide) f
theorem opR_in (g f : Nat) : opR g f = 0 ∨ (28 ≤ opR g f ∧ opR g f ≤ 45) := by
  unfold opR
  split
  · exact nthP (P := fun v => v = 0 ∨ (28 ≤ v ∧ v ≤ 45)) (by decide) (by decide) f
  split
  · exact nthP (P := fun v => v = 0 ∨ (28 ≤ v ∧ v ≤ 45)) (by decide) (by decide) f
  split
  · decide
  split
  · decide
  · decide
theorem dec_use (w : Nat) : UseI (fb w 15 5) (fb w 20 5) (decodeP w) := by
  have hb12 : ((fb w 20 12 : Nat) : Int) < 4096 := by have := fb_lt w 20 12; omega
  unfold decodeP
  generalize fb w 7 5 = rd at *
  generalize fb w 15 5 = r1 at *
  generalize fb w 20 5 = r2 at *
  generalize fb w 0 7 = code
  generalize fb w 12 3 = f3
  generalize fb w 25 7 = f7
  unfold codeP
  split
  · exact ⟨fun h => by unfold U1 at h; simp at h, fun h => by unfold U2 at h; simp at h, fun h => by simp at h⟩
  split
  · exact ⟨fun h => by unfold U1 at h; simp at h, fun h => by unfold U2 at h; simp at h, fun h => by simp at h⟩
  split
  · exact ⟨fun h => by unfold U1 at h; simp at h, fun h => by unfold U2 at h; simp at h, fun h => by simp at h⟩
  split
  · split
    · exact ⟨fun _ => rfl, fun h => by unfold U2 at h; simp at h, fun h => by simp at h⟩
    · exact UseI.no _ _
  split
  · have := opB_in f3
    exact UseI.withI (fun h0 => ⟨fun _ => rfl, fun _ => rfl, fun h => by dsimp only at h; omega⟩)
  split
  · have := opL_in f3
    exact UseI.withI (fun h0 => ⟨fun _ => rfl, fun h => by unfold U2 at h; dsimp only at h; omega, fun h => by dsimp only at h; omega⟩)
  split
  · have := opS_in f3
    exact UseI.withI (fun h0 => ⟨fun _ => rfl, fun _ => rfl, fun h => by dsimp only at h; omega⟩)
  split
  · unfold immP
    split
    · have := opI_in f3
      exact UseI.withI (fun h0 => ⟨fun _ => rfl, fun h => by unfold U2 at h; dsimp only at h; omega, fun h => by dsimp only at h; omega⟩)
    split
    · exact ⟨fun _ => rfl, fun h => by unfold U2 at h; simp at h, fun h => by simp at h⟩
    split
    · exact ⟨fun _ => rfl, fun h => by unfold U2 at h; simp at h, fun h => by simp at h⟩
    split
    · exact ⟨fun _ => rfl, fun h => by unfold U2 at h; simp at h, fun h => by simp at h⟩
    exact UseI.no _ _
  split
  · have := opR_in f7 f3
    exact UseI.withI (fun h0 => ⟨fun _ => rfl, fun _ => rfl, fun h => by dsimp only at h; omega⟩)
  split
  · split
    · exact ⟨fun h => by unfold U1 at h; simp at h, fun h => by unfold U2 at h; simp at h, fun h => by simp at h⟩
    · exact UseI.no _ _
  split
  · unfold sysP
    split
    · exact ⟨fun h => by unfold U1 at h; simp at h, fun h => by unfold U2 at h; simp at h, fun h => by simp at h⟩
    split
    · exact ⟨fun h => by unfold U1 at h; simp at h, fun h => by unfold U2 at h; simp at h, fun h => by simp at h⟩
    split
    · exact ⟨fun h => by unfold U1 at h; simp at h, fun h => by unfold U2 at h; simp at h, fun h => by simp at h⟩
    · have := opC_in f3
      exact UseI.withI (fun h0 => ⟨fun _ => rfl, fun h => by unfold U2 at h; dsimp only at h; omega, fun _ => ⟨by dsimp only; omega, by dsimp only; omega⟩⟩)
  · exact UseI.no _ _
theorem taken_cong (op a b a' b' : Nat) (h : 5 ≤ op ∧ op ≤ 10 → a = a' ∧ b = b') : takenP op a b = takenP op a' b' := by
  by_cases ho : 5 ≤ op ∧ op ≤ 10
  · obtain ⟨rfl, rfl⟩ := h ho; rfl
  · rw [takenP_no op a b (by omega), takenP_no op a' b' (by omega)]
theorem moveX_word (pc b : Nat) (cs : List Nat) (i : InstV) (addr v v' : Nat) (h : 16 ≤ i.op) : moveX pc b cs i addr v = moveX pc b cs i addr v' := by
  unfold moveX; simp only [if_neg (show ¬ i.op ≤ 15 by omega)]
theorem moveX_b (pc b b' : Nat) (cs : List Nat) (i : InstV) (addr v : Nat) (h : i.op ≤ 15) : moveX pc b cs i addr v = moveX pc b' cs i addr v := by
  unfold moveX; simp only [if_pos h]
/-- What is made hangs on what is used alone. -/
theorem doI_cong (pc w a b a' b' : Nat) (cs : List Nat) (v v' : Nat) (i : InstV) (h1 : U1 i.op → a = a') (h2 : U2 i.op → b = b') (h3 : 11 ≤ i.op ∧ i.op ≤ 15 → v = v') : doI pc w a b cs v i = doI pc w a' b' cs v' i := by
  have ht := taken_cong i.op a b a' b' (fun h => ⟨h1 (Or.inl (by omega)), h2 (Or.inl h)⟩)
  unfold doI
  by_cases c0 : i.op = 0
  · rw [if_pos c0, if_pos c0]
  rw [if_neg c0, if_neg c0]
  by_cases c1 : i.op = 47
  · rw [if_pos c1, if_pos c1]
  rw [if_neg c1, if_neg c1]
  by_cases c2 : i.op = 48
  · rw [if_pos c2, if_pos c2]
  rw [if_neg c2, if_neg c2]
  by_cases c3 : i.op = 49
  · rw [if_pos c3, if_pos c3]
  rw [if_neg c3, if_neg c3]
  by_cases c4 : 50 ≤ i.op
  · rw [if_pos c4, if_pos c4, h1 (Or.inr c4)]
  rw [if_neg c4, if_neg c4]
  by_cases c5 : i.op = 3
  · rw [if_pos c5, if_pos c5]
  rw [if_neg c5, if_neg c5]
  by_cases c6 : i.op = 4
  · rw [if_pos c6, if_pos c6, h1 (Or.inl (by omega))]
  rw [if_neg c6, if_neg c6, ht]
  by_cases c7 : takenP i.op a' b' = true
  · rw [if_pos c7, if_pos c7]
  rw [if_neg c7, if_neg c7]
  by_cases c8 : 11 ≤ i.op ∧ i.op ≤ 18
  · rw [if_pos c8, if_pos c8, moveP_X, moveP_X, h1 (Or.inl (by omega))]
    by_cases c9 : i.op ≤ 15
    · rw [h3 ⟨c8.1, c9⟩, moveX_b pc b b' cs i _ v' c9]
    · rw [h2 (Or.inr (Or.inl (by omega))), moveX_word pc b' cs i _ v v' (by omega)]
  rw [if_neg c8, if_neg c8]
  by_cases c9 : 19 ≤ i.op ∧ i.op ≤ 27
  · simp only [if_pos c9, h1 (Or.inl (by omega))]
  · simp only [if_neg c9]
    by_cases c10 : 28 ≤ i.op ∧ i.op ≤ 45
    · simp only [if_pos c10, h1 (Or.inl (by omega)), h2 (Or.inr (Or.inr c10))]
    · simp only [if_neg c10]
/-- What is made, by what the decoded instruction names. -/
theorem madeP_ref (s : MSt) (hf : (fetchP s.pc).2 = false) : madeP s = doI s.pc (nth s.mem (s.pc / 4)) (nth s.regs (decodeP (nth s.mem (s.pc / 4))).r1) (nth s.regs (decodeP (nth s.mem (s.pc / 4))).r2) s.csrs
    (nth s.mem (u32 (((nth s.regs (decodeP (nth s.mem (s.pc / 4))).r1 : Nat) : Int) + (decodeP (nth s.mem (s.pc / 4))).imm) / 4)) (decodeP (nth s.mem (s.pc / 4))) := by
  unfold madeP
  rw [if_neg (by rw [hf]; decide)]
  have h := dec_use (nth s.mem (s.pc / 4))
  rw [doP_eq]
  exact doI_cong _ _ _ _ _ _ _ _ _ _ (fun hu => by rw [h.u1 hu]) (fun hu => by rw [h.u2 hu]) (fun hu => by rw [h.u1 (Or.inl (by omega))])
end Go.Proofs.YtggjmdgonjhioaaGreat
