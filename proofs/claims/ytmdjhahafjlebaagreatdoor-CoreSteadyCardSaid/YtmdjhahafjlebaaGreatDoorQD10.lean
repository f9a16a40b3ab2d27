/- The document's decoding: what a word means. -/
import Derived.Test.YtmdjhahafjlebaaGreatDoorQD09
import Derived.Deep.Cut
namespace Go.Proofs.YtmdjhahafjlebaaGreatDoor
open Go.RowKit Go.Dio
set_option linter.unusedSimpArgs false
set_option linter.unusedVariables false

def fixI (i : InstV) : InstV := if i.op = 0 then noI else i
theorem fix_with (o : Nat) (i : InstV) : fixI { i with op := o } = withI o i := by unfold fixI withI; rfl
theorem fix_imm (w f3 f7 rd r1 r2 : Nat) (h3 : f3 < 8) (h2 : r2 = fb w 20 5) : fixI ⟨immO f3 f7, rd, r1, 0, immV w f3 f7⟩ = immP w f3 f7 rd r1 r2 := by
  subst h2
  unfold immP
  by_cases h : f3 ≠ 1 ∧ f3 ≠ 5
  · rw [if_pos h, show immO f3 f7 = nth [19, 25, 20, 21, 22, 26, 23, 24] f3 from if_pos h, show immV w f3 f7 = immI w from if_pos h]
    rcases (by omega : f3 = 0 ∨ f3 = 2 ∨ f3 = 3 ∨ f3 = 4 ∨ f3 = 6 ∨ f3 = 7) with rfl | rfl | rfl | rfl | rfl | rfl <;> rfl
  · rw [if_neg h]
    rcases (by omega : f3 = 1 ∨ f3 = 5) with rfl | rfl
    · by_cases h0 : f7 = 0
      · subst h0; rfl
      · simp [immO, immV, h0, fixI]
    · by_cases h0 : f7 = 0
      · subst h0; rfl
      · by_cases h1 : f7 = 32
        · subst h1; rfl
        · simp [immO, immV, h0, h1, fixI]
theorem fix_sys (w f3 rd r1 : Nat) : fixI (rsysP w f3 rd r1) = sysP w f3 rd r1 := by
  unfold rsysP sysP
  split
  · rfl
  · split
    · rfl
    · split
      · rfl
      · rfl
theorem fix103 (w f3 f7 rd r1 r2 : Nat) (h3 : f3 < 8) : fixI ⟨nth [4] f3, rd, r1, 0, immI w⟩ = codeP w 103 f3 f7 rd r1 r2 := by
  rcases (by omega : f3 = 0 ∨ f3 = 1 ∨ f3 = 2 ∨ f3 = 3 ∨ f3 = 4 ∨ f3 = 5 ∨ f3 = 6 ∨ f3 = 7) with rfl | rfl | rfl | rfl | rfl | rfl | rfl | rfl <;> rfl
theorem fix3 (w f3 f7 rd r1 r2 : Nat) (h3 : f3 < 8) : fixI ⟨nth [11, 12, 13, 0, 14, 15] f3, rd, r1, 0, immI w⟩ = codeP w 3 f3 f7 rd r1 r2 := by
  rcases (by omega : f3 = 0 ∨ f3 = 1 ∨ f3 = 2 ∨ f3 = 3 ∨ f3 = 4 ∨ f3 = 5 ∨ f3 = 6 ∨ f3 = 7) with rfl | rfl | rfl | rfl | rfl | rfl | rfl | rfl <;> rfl
theorem fix35 (w f3 f7 rd r1 r2 : Nat) (h3 : f3 < 8) : fixI ⟨nth [16, 17, 18] f3, 0, r1, r2, immS w⟩ = codeP w 35 f3 f7 rd r1 r2 := by
  rcases (by omega : f3 = 0 ∨ f3 = 1 ∨ f3 = 2 ∨ f3 = 3 ∨ f3 = 4 ∨ f3 = 5 ∨ f3 = 6 ∨ f3 = 7) with rfl | rfl | rfl | rfl | rfl | rfl | rfl | rfl <;> rfl
theorem fix15 (w f3 f7 rd r1 r2 : Nat) (h3 : f3 < 8) : fixI ⟨nth [46] f3, 0, 0, 0, 0⟩ = codeP w 15 f3 f7 rd r1 r2 := by
  rcases (by omega : f3 = 0 ∨ f3 = 1 ∨ f3 = 2 ∨ f3 = 3 ∨ f3 = 4 ∨ f3 = 5 ∨ f3 = 6 ∨ f3 = 7) with rfl | rfl | rfl | rfl | rfl | rfl | rfl | rfl <;> rfl
set_option maxRecDepth 20000 in
set_option maxHeartbeats 4000000 in
theorem rdecode_calls (w : Nat) (hw : w < 2 ^ 32) (zz : World) :
    Calls Tryz.prog 55 #[.int .u32 (w : Int)] zz fun e z' => e = .returned (.tuple #[.agg (decodeP w).arr, .bool (decide ((decodeP w).op ≠ 0))]) ∧ Upd [] zz z' := by
  have B3 := Lib.hid (fun z => rBits_calls w 12 3 z hw (by decide) (by decide) (by decide))
  have Bd := Lib.hid (fun z => rBits_calls w 7 5 z hw (by decide) (by decide) (by decide))
  have B1 := Lib.hid (fun z => rBits_calls w 15 5 z hw (by decide) (by decide) (by decide))
  have B2 := Lib.hid (fun z => rBits_calls w 20 5 z hw (by decide) (by decide) (by decide))
  have B7 := Lib.hid (fun z => rBits_calls w 25 7 z hw (by decide) (by decide) (by decide))
  have RI := Lib.hid (fun f3 z h3 => rimm_calls w f3 hw h3 z)
  have h3 : fb w 12 3 < 8 := fb_lt w 12 3
  have h7 : fb w 25 7 < 128 := fb_lt w 25 7
  have hd : fb w 7 5 < 32 := fb_lt w 7 5
  have h1 : fb w 15 5 < 32 := fb_lt w 15 5
  have h2 : fb w 20 5 < 32 := fb_lt w 20 5
  have FX := Lib.hid (fun f3 f7 rd r1 h3 => fix_imm w f3 f7 rd r1 (fb w 20 5) h3 rfl)
  have ec : bits .and .u32 (w : Int) 127 = ((fb w 0 7 : Nat) : Int) := by
    have := lo_and w 7 hw (by decide)
    have e0 : fb w 0 7 = w % 2 ^ 7 := by unfold fb; rw [Nat.pow_zero, Nat.div_one]
    rw [e0]; exact this
  unfold decodeP
  generalize fb w 0 7 = code at *
  generalize fb w 12 3 = f3 at *
  generalize fb w 25 7 = f7 at *
  generalize fb w 7 5 = rd at *
  generalize fb w 15 5 = r1 at *
  generalize fb w 20 5 = r2 at *
  have pd : IntKind.i64.wrap (rd : Int) = (rd : Int) := wrapi64 (by omega) (by omega)
  have p1 : IntKind.i64.wrap (r1 : Int) = (r1 : Int) := wrapi64 (by omega) (by omega)
  have p2 : IntKind.i64.wrap (r2 : Int) = (r2 : Int) := wrapi64 (by omega) (by omega)
  obtain ⟨D, hD⟩ : ∃ D, D = codeP w code f3 f7 rd r1 r2 := ⟨_, rfl⟩
  rw [← hD]
  have HD := Lib.hid hD
  clear hD
  go_enter Tryz.func55, Tryz.ntmps55
  go_wp2_with (fail)
  refine (B3.out _).mono ?_
  rintro e z1 ⟨rfl, rfl⟩
  go_wp2_with (fail)
  refine (Bd.out _).mono ?_
  rintro e z1 ⟨rfl, rfl⟩
  go_wp2_with (fail)
  refine (B1.out _).mono ?_
  rintro e z1 ⟨rfl, rfl⟩
  go_wp2_with (fail)
  refine (B2.out _).mono ?_
  rintro e z1 ⟨rfl, rfl⟩
  go_upto_block 0 with (fail)
  have P5 := Lib.hid (hl2 zz (.cells noI.arr 69) (.cells (InstV.arr ⟨0, rd, r1, r2, 0⟩) 69))
  have EW := Lib.hid (heap_old (hl1 zz (.cells noI.arr 69)) (.cells (InstV.arr ⟨0, rd, r1, r2, 0⟩) 69))
  have UW := Lib.hid (((Upd.refl [] zz).alloc (.cells noI.arr 69)).alloc (.cells (InstV.arr ⟨0, rd, r1, r2, 0⟩) 69))
  change Code.wp _ _ _ _ ((zz.alloc (.cells noI.arr 69)).alloc (.cells (InstV.arr ⟨0, rd, r1, r2, 0⟩) 69))
  generalize (zz.alloc (.cells noI.arr 69)).alloc (.cells (InstV.arr ⟨0, rd, r1, r2, 0⟩) 69) = W at P5 UW EW ⊢
  obtain ⟨b5, hb5⟩ : ∃ b5, b5 = zz.heap.size + 1 := ⟨_, rfl⟩
  rw [← hb5] at P5 ⊢
  have h25 : zz.heap.size ≠ b5 := by omega
  have hz5 : zz.heap.size ≤ b5 := by omega
  clear hb5 B3 Bd B1 B2 pd p1 p2
  go_cut [21] (fun v21 wc => ∃ u, u = v21 ∧ ∃ I : InstV, Hid (wc.heap[b5]? = some (.cells I.arr 69 (0, 0))) ∧ Hid (Upd [b5] W wc) ∧ Hid (fixI I = D))
  case first =>
    by_cases q55 : code = 55
    · subst q55
      go_wp2_with fail
      have n1 : ∀ x : Near [] W, x.1.cell? ⟨b5, 1, none⟩ = some (.int .i64 (rd : Int)) := fun x => by rw [cells_of (x.2.keep P5.out (by simp))]; rfl
      refine wp_region_segs [([([0, 1, 2], 3)], [4]), ([([], 5)], [])] (by kernel_rfl) (by kernel_rfl) (by kernel_rfl) (by kernel_rfl) (fun _ d _ _ _ h => by cases d <;> exact h) ?_
      refine segs_part (fun z => ∃ x : Near [] W, z = x.1) ⟨⟨_, (Upd.refl _ _).drew⟩, rfl⟩ ?_
      refine part_next ?_
      simp only [opsAt, List.map_cons, List.map_nil, List.getElem?_toArray, List.getElem?_cons_zero, List.getElem?_cons_succ, Option.getD_some]
      repeat (go_big_quiet_step (fail))
      refine wpQuiet_nil ?_
      refine part_one rfl ?_
      go_wp2_with fail
      refine (rImmU_calls w _ hw).mono ?_
      rintro e z1 ⟨rfl, rfl⟩
      go_wp2_with fail
      refine part_same ⟨⟨_, (Upd.refl _ _).drew⟩, rfl⟩ ?_
      refine part_last ?_
      simp only [opsAt, List.map_cons, List.map_nil, List.getElem?_toArray, List.getElem?_cons_zero, List.getElem?_cons_succ, Option.getD_some]
      repeat (go_big_quiet_step (fail))
      refine wpQuiet_nil ?_
      unfold partEnd
      clear n1
      refine segs_part (fun z => ∃ x : Near [b5] W, z = x.1) ⟨⟨_, (Upd.refl _ _).drew⟩, rfl⟩ ?_
      refine part_next ?_
      simp only [opsAt, List.map_cons, List.map_nil, List.getElem?_toArray, List.getElem?_cons_zero, List.getElem?_cons_succ, Option.getD_some]
      repeat (go_big_quiet_step (fail))
      refine wpQuiet_nil ?_
      refine part_one rfl ?_
      refine L_store_row 69 (.tmp 5) (.tmp 30) rfl (by kernel_rfl) b5 0 rfl (InstV.arr ⟨0, rd, r1, r2, 0⟩).toList 69 (show (World.drew W).heap[b5]? = _ from P5.out) (InstV.arr ⟨1, rd, 0, 0, immU w⟩) rfl 5 info_inst rfl (show 5 ≤ 5 by decide) (InstV.one _) ?_
      intro wA bA uA zA
      rw [spl_all (by rfl)] at bA
      have R2 : Hid (wA.heap[b5]? = some (.cells (InstV.arr ⟨1, rd, 0, 0, immU w⟩) 69 (0, 0))) := Lib.hid bA
      have V3 : Hid (Upd [b5] W wA) := Lib.hid (((Upd.refl _ _).drew).trans uA)
      clear bA uA zA
      refine part_same ⟨⟨_, V3.out⟩, rfl⟩ ?_
      refine part_last ?_
      simp only [opsAt, List.map_cons, List.map_nil, List.getElem?_toArray, List.getElem?_cons_zero, List.getElem?_cons_succ, Option.getD_some]
      repeat (go_big_quiet_step (fail))
      refine wpQuiet_nil ?_
      unfold partEnd
      refine segs_end ?_
      try go_wp2_with (fail)
      go_meet
      case rel => exact ⟨_, rfl, InstV.mk 1 rd 0 0 (immU w), R2, V3, Lib.hid (HD.out.symm)⟩
    have d55 : ((code : Int) == 55) = false := (cast_ne_b q55).1
    by_cases q23 : code = 23
    · subst q23
      go_wp2_with fail
      have n1 : ∀ x : Near [] W, x.1.cell? ⟨b5, 1, none⟩ = some (.int .i64 (rd : Int)) := fun x => by rw [cells_of (x.2.keep P5.out (by simp))]; rfl
      refine wp_region_segs [([([0, 1, 2], 3)], [4]), ([([], 5)], [])] (by kernel_rfl) (by kernel_rfl) (by kernel_rfl) (by kernel_rfl) (fun _ d _ _ _ h => by cases d <;> exact h) ?_
      refine segs_part (fun z => ∃ x : Near [] W, z = x.1) ⟨⟨_, (Upd.refl _ _).drew⟩, rfl⟩ ?_
      refine part_next ?_
      simp only [opsAt, List.map_cons, List.map_nil, List.getElem?_toArray, List.getElem?_cons_zero, List.getElem?_cons_succ, Option.getD_some]
      repeat (go_big_quiet_step (fail))
      refine wpQuiet_nil ?_
      refine part_one rfl ?_
      go_wp2_with fail
      refine (rImmU_calls w _ hw).mono ?_
      rintro e z1 ⟨rfl, rfl⟩
      go_wp2_with fail
      refine part_same ⟨⟨_, (Upd.refl _ _).drew⟩, rfl⟩ ?_
      refine part_last ?_
      simp only [opsAt, List.map_cons, List.map_nil, List.getElem?_toArray, List.getElem?_cons_zero, List.getElem?_cons_succ, Option.getD_some]
      repeat (go_big_quiet_step (fail))
      refine wpQuiet_nil ?_
      unfold partEnd
      clear n1
      refine segs_part (fun z => ∃ x : Near [b5] W, z = x.1) ⟨⟨_, (Upd.refl _ _).drew⟩, rfl⟩ ?_
      refine part_next ?_
      simp only [opsAt, List.map_cons, List.map_nil, List.getElem?_toArray, List.getElem?_cons_zero, List.getElem?_cons_succ, Option.getD_some]
      repeat (go_big_quiet_step (fail))
      refine wpQuiet_nil ?_
      refine part_one rfl ?_
      refine L_store_row 69 (.tmp 5) (.tmp 30) rfl (by kernel_rfl) b5 0 rfl (InstV.arr ⟨0, rd, r1, r2, 0⟩).toList 69 (show (World.drew W).heap[b5]? = _ from P5.out) (InstV.arr ⟨1, rd, 0, 0, immU w⟩) rfl 5 info_inst rfl (show 5 ≤ 5 by decide) (InstV.one _) ?_
      intro wA bA uA zA
      rw [spl_all (by rfl)] at bA
      have R2 : Hid (wA.heap[b5]? = some (.cells (InstV.arr ⟨1, rd, 0, 0, immU w⟩) 69 (0, 0))) := Lib.hid bA
      have V3 : Hid (Upd [b5] W wA) := Lib.hid (((Upd.refl _ _).drew).trans uA)
      clear bA uA zA
      refine part_same ⟨⟨_, V3.out⟩, rfl⟩ ?_
      refine part_last ?_
      simp only [opsAt, List.map_cons, List.map_nil, List.getElem?_toArray, List.getElem?_cons_zero, List.getElem?_cons_succ, Option.getD_some]
      repeat (go_big_quiet_step (fail))
      refine wpQuiet_nil ?_
      unfold partEnd
      refine segs_end ?_
      go_wp2_with (first
        | go_skip
        | ((with_reducible refine at_st 34 ?_); refine L_store_int 3 (.tmp 34) _ rfl (by kernel_rfl) b5 0 rfl (InstV.arr ⟨1, rd, 0, 0, immU w⟩).toList 69 R2.out .i64 2 rfl info_int1 (show 0 < 5 by decide) ?_))
      intro wA bA uA zA
      have R3 := Lib.hid bA
      have V4 := Lib.hid (V3.out.trans uA)
      clear bA uA zA R2 V3
      have R2 := R3
      have V3 := V4
      clear R3 V4
      try go_wp2_with (fail)
      go_meet
      case rel => exact ⟨_, rfl, InstV.mk 2 rd 0 0 (immU w), R2, V3, Lib.hid (HD.out.symm)⟩
    have d23 : ((code : Int) == 23) = false := (cast_ne_b q23).1
    by_cases q111 : code = 111
    · subst q111
      go_wp2_with fail
      have n1 : ∀ x : Near [] W, x.1.cell? ⟨b5, 1, none⟩ = some (.int .i64 (rd : Int)) := fun x => by rw [cells_of (x.2.keep P5.out (by simp))]; rfl
      refine wp_region_segs [([([0, 1, 2], 3)], [4]), ([([], 5)], [])] (by kernel_rfl) (by kernel_rfl) (by kernel_rfl) (by kernel_rfl) (fun _ d _ _ _ h => by cases d <;> exact h) ?_
      refine segs_part (fun z => ∃ x : Near [] W, z = x.1) ⟨⟨_, (Upd.refl _ _).drew⟩, rfl⟩ ?_
      refine part_next ?_
      simp only [opsAt, List.map_cons, List.map_nil, List.getElem?_toArray, List.getElem?_cons_zero, List.getElem?_cons_succ, Option.getD_some]
      repeat (go_big_quiet_step (fail))
      refine wpQuiet_nil ?_
      refine part_one rfl ?_
      go_wp2_with fail
      refine (rImmJ_calls w _ hw).mono ?_
      rintro e z1 ⟨rfl, rfl⟩
      go_wp2_with fail
      refine part_same ⟨⟨_, (Upd.refl _ _).drew⟩, rfl⟩ ?_
      refine part_last ?_
      simp only [opsAt, List.map_cons, List.map_nil, List.getElem?_toArray, List.getElem?_cons_zero, List.getElem?_cons_succ, Option.getD_some]
      repeat (go_big_quiet_step (fail))
      refine wpQuiet_nil ?_
      unfold partEnd
      clear n1
      refine segs_part (fun z => ∃ x : Near [b5] W, z = x.1) ⟨⟨_, (Upd.refl _ _).drew⟩, rfl⟩ ?_
      refine part_next ?_
      simp only [opsAt, List.map_cons, List.map_nil, List.getElem?_toArray, List.getElem?_cons_zero, List.getElem?_cons_succ, Option.getD_some]
      repeat (go_big_quiet_step (fail))
      refine wpQuiet_nil ?_
      refine part_one rfl ?_
      refine L_store_row 69 (.tmp 5) (.tmp 41) rfl (by kernel_rfl) b5 0 rfl (InstV.arr ⟨0, rd, r1, r2, 0⟩).toList 69 (show (World.drew W).heap[b5]? = _ from P5.out) (InstV.arr ⟨3, rd, 0, 0, immJ w⟩) rfl 5 info_inst rfl (show 5 ≤ 5 by decide) (InstV.one _) ?_
      intro wA bA uA zA
      rw [spl_all (by rfl)] at bA
      have R2 : Hid (wA.heap[b5]? = some (.cells (InstV.arr ⟨3, rd, 0, 0, immJ w⟩) 69 (0, 0))) := Lib.hid bA
      have V3 : Hid (Upd [b5] W wA) := Lib.hid (((Upd.refl _ _).drew).trans uA)
      clear bA uA zA
      refine part_same ⟨⟨_, V3.out⟩, rfl⟩ ?_
      refine part_last ?_
      simp only [opsAt, List.map_cons, List.map_nil, List.getElem?_toArray, List.getElem?_cons_zero, List.getElem?_cons_succ, Option.getD_some]
      repeat (go_big_quiet_step (fail))
      refine wpQuiet_nil ?_
      unfold partEnd
      refine segs_end ?_
      try go_wp2_with (fail)
      go_meet
      case rel => exact ⟨_, rfl, InstV.mk 3 rd 0 0 (immJ w), R2, V3, Lib.hid (HD.out.symm)⟩
    have d111 : ((code : Int) == 111) = false := (cast_ne_b q111).1
    by_cases q103 : code = 103
    · subst q103
      go_wp2_with (fail)
      refine (pick_calls _ [4] _ _ f3 _ rfl (numsAt_new _ .i64 [4] 3) (by omega) (by decide)).mono ?_
      rintro e z1 ⟨rfl, rfl⟩
      have R2 := Lib.hid (heap_old P5.out (.cells (nums .i64 [4]) 3))
      have V3 := Lib.hid ((Upd.refl [b5] W).alloc (.cells (nums .i64 [4]) 3))
      generalize hX : World.alloc W _ = X
      have hX2 : W.alloc (.cells (nums .i64 [4]) 3) = X := hX
      rw [hX2] at R2 V3
      clear hX hX2
      go_wp2_with (fail)
      refine (rImmI_calls w _ hw).mono ?_
      rintro e z1 ⟨rfl, rfl⟩
      go_wp2_with (first
        | go_skip
        | ((with_reducible refine at_st 49 ?_); refine L_store_int 3 (.tmp 49) _ rfl (by kernel_rfl) b5 0 rfl (InstV.arr ⟨0, rd, r1, r2, 0⟩).toList 69 R2.out .i64 ((nth [4] f3 : Nat) : Int) rfl info_int1 (show 0 < 5 by decide) ?_))
      intro wA bA uA zA
      have R3 := Lib.hid bA
      have V4 := Lib.hid (V3.out.trans uA)
      clear bA uA zA R2 V3
      have R2 := R3
      have V3 := V4
      clear R3 V4
      go_wp2_with (first
        | go_skip
        | ((with_reducible refine at_st 50 ?_); refine L_store_int 3 (.tmp 50) _ rfl (by kernel_rfl) b5 3 rfl _ 69 R2.out .i64 0 rfl info_int1 (show 3 < 5 by decide) ?_))
      intro wA bA uA zA
      have R3 := Lib.hid bA
      have V4 := Lib.hid (V3.out.trans uA)
      clear bA uA zA R2 V3
      have R2 := R3
      have V3 := V4
      clear R3 V4
      go_wp2_with (first
        | go_skip
        | ((with_reducible refine at_st 51 ?_); refine L_store_int 21 (.tmp 51) _ rfl (by kernel_rfl) b5 4 rfl _ 69 R2.out .i32 (immI w) rfl info_i32 (show 4 < 5 by decide) ?_))
      intro wA bA uA zA
      have R3 := Lib.hid bA
      have V4 := Lib.hid (V3.out.trans uA)
      clear bA uA zA R2 V3
      have R2 := R3
      have V3 := V4
      clear R3 V4
      try go_wp2_with (fail)
      go_meet
      case rel => exact ⟨_, rfl, InstV.mk (nth [4] f3) rd r1 0 (immI w), R2, V3, Lib.hid ((by rw [HD.out]; exact fix103 w f3 f7 rd r1 r2 h3))⟩
    have d103 : ((code : Int) == 103) = false := (cast_ne_b q103).1
    by_cases q99 : code = 99
    · subst q99
      go_wp2_with (fail)
      refine (pick_calls _ [5, 6, 0, 0, 7, 8, 9, 10] _ _ f3 _ rfl (numsAt_new _ .i64 [5, 6, 0, 0, 7, 8, 9, 10] 3) (by omega) (by decide)).mono ?_
      rintro e z1 ⟨rfl, rfl⟩
      have R2 := Lib.hid (heap_old P5.out (.cells (nums .i64 [5, 6, 0, 0, 7, 8, 9, 10]) 3))
      have V3 := Lib.hid ((Upd.refl [b5] W).alloc (.cells (nums .i64 [5, 6, 0, 0, 7, 8, 9, 10]) 3))
      generalize hX : World.alloc W _ = X
      have hX2 : W.alloc (.cells (nums .i64 [5, 6, 0, 0, 7, 8, 9, 10]) 3) = X := hX
      rw [hX2] at R2 V3
      clear hX hX2
      go_wp2_with (fail)
      refine (rImmB_calls w _ hw).mono ?_
      rintro e z1 ⟨rfl, rfl⟩
      go_wp2_with (first
        | go_skip
        | ((with_reducible refine at_st 59 ?_); refine L_store_int 3 (.tmp 59) _ rfl (by kernel_rfl) b5 0 rfl (InstV.arr ⟨0, rd, r1, r2, 0⟩).toList 69 R2.out .i64 ((nth [5, 6, 0, 0, 7, 8, 9, 10] f3 : Nat) : Int) rfl info_int1 (show 0 < 5 by decide) ?_))
      intro wA bA uA zA
      have R3 := Lib.hid bA
      have V4 := Lib.hid (V3.out.trans uA)
      clear bA uA zA R2 V3
      have R2 := R3
      have V3 := V4
      clear R3 V4
      go_wp2_with (first
        | go_skip
        | ((with_reducible refine at_st 60 ?_); refine L_store_int 3 (.tmp 60) _ rfl (by kernel_rfl) b5 1 rfl _ 69 R2.out .i64 0 rfl info_int1 (show 1 < 5 by decide) ?_))
      intro wA bA uA zA
      have R3 := Lib.hid bA
      have V4 := Lib.hid (V3.out.trans uA)
      clear bA uA zA R2 V3
      have R2 := R3
      have V3 := V4
      clear R3 V4
      go_wp2_with (first
        | go_skip
        | ((with_reducible refine at_st 61 ?_); refine L_store_int 21 (.tmp 61) _ rfl (by kernel_rfl) b5 4 rfl _ 69 R2.out .i32 (immB w) rfl info_i32 (show 4 < 5 by decide) ?_))
      intro wA bA uA zA
      have R3 := Lib.hid bA
      have V4 := Lib.hid (V3.out.trans uA)
      clear bA uA zA R2 V3
      have R2 := R3
      have V3 := V4
      clear R3 V4
      try go_wp2_with (fail)
      go_meet
      case rel => exact ⟨_, rfl, InstV.mk (nth [5, 6, 0, 0, 7, 8, 9, 10] f3) 0 r1 r2 (immB w), R2, V3, Lib.hid ((by rw [HD.out]; rfl))⟩
    have d99 : ((code : Int) == 99) = false := (cast_ne_b q99).1
    by_cases q3 : code = 3
    · subst q3
      go_wp2_with (fail)
      refine (pick_calls _ [11, 12, 13, 0, 14, 15] _ _ f3 _ rfl (numsAt_new _ .i64 [11, 12, 13, 0, 14, 15] 3) (by omega) (by decide)).mono ?_
      rintro e z1 ⟨rfl, rfl⟩
      have R2 := Lib.hid (heap_old P5.out (.cells (nums .i64 [11, 12, 13, 0, 14, 15]) 3))
      have V3 := Lib.hid ((Upd.refl [b5] W).alloc (.cells (nums .i64 [11, 12, 13, 0, 14, 15]) 3))
      generalize hX : World.alloc W _ = X
      have hX2 : W.alloc (.cells (nums .i64 [11, 12, 13, 0, 14, 15]) 3) = X := hX
      rw [hX2] at R2 V3
      clear hX hX2
      go_wp2_with (fail)
      refine (rImmI_calls w _ hw).mono ?_
      rintro e z1 ⟨rfl, rfl⟩
      go_wp2_with (first
        | go_skip
        | ((with_reducible refine at_st 69 ?_); refine L_store_int 3 (.tmp 69) _ rfl (by kernel_rfl) b5 0 rfl (InstV.arr ⟨0, rd, r1, r2, 0⟩).toList 69 R2.out .i64 ((nth [11, 12, 13, 0, 14, 15] f3 : Nat) : Int) rfl info_int1 (show 0 < 5 by decide) ?_))
      intro wA bA uA zA
      have R3 := Lib.hid bA
      have V4 := Lib.hid (V3.out.trans uA)
      clear bA uA zA R2 V3
      have R2 := R3
      have V3 := V4
      clear R3 V4
      go_wp2_with (first
        | go_skip
        | ((with_reducible refine at_st 70 ?_); refine L_store_int 3 (.tmp 70) _ rfl (by kernel_rfl) b5 3 rfl _ 69 R2.out .i64 0 rfl info_int1 (show 3 < 5 by decide) ?_))
      intro wA bA uA zA
      have R3 := Lib.hid bA
      have V4 := Lib.hid (V3.out.trans uA)
      clear bA uA zA R2 V3
      have R2 := R3
      have V3 := V4
      clear R3 V4
      go_wp2_with (first
        | go_skip
        | ((with_reducible refine at_st 71 ?_); refine L_store_int 21 (.tmp 71) _ rfl (by kernel_rfl) b5 4 rfl _ 69 R2.out .i32 (immI w) rfl info_i32 (show 4 < 5 by decide) ?_))
      intro wA bA uA zA
      have R3 := Lib.hid bA
      have V4 := Lib.hid (V3.out.trans uA)
      clear bA uA zA R2 V3
      have R2 := R3
      have V3 := V4
      clear R3 V4
      try go_wp2_with (fail)
      go_meet
      case rel => exact ⟨_, rfl, InstV.mk (nth [11, 12, 13, 0, 14, 15] f3) rd r1 0 (immI w), R2, V3, Lib.hid ((by rw [HD.out]; exact fix3 w f3 f7 rd r1 r2 h3))⟩
    have d3 : ((code : Int) == 3) = false := (cast_ne_b q3).1
    by_cases q35 : code = 35
    · subst q35
      go_wp2_with (fail)
      refine (pick_calls _ [16, 17, 18] _ _ f3 _ rfl (numsAt_new _ .i64 [16, 17, 18] 3) (by omega) (by decide)).mono ?_
      rintro e z1 ⟨rfl, rfl⟩
      have R2 := Lib.hid (heap_old P5.out (.cells (nums .i64 [16, 17, 18]) 3))
      have V3 := Lib.hid ((Upd.refl [b5] W).alloc (.cells (nums .i64 [16, 17, 18]) 3))
      generalize hX : World.alloc W _ = X
      have hX2 : W.alloc (.cells (nums .i64 [16, 17, 18]) 3) = X := hX
      rw [hX2] at R2 V3
      clear hX hX2
      go_wp2_with (fail)
      refine (rImmS_calls w _ hw).mono ?_
      rintro e z1 ⟨rfl, rfl⟩
      go_wp2_with (first
        | go_skip
        | ((with_reducible refine at_st 79 ?_); refine L_store_int 3 (.tmp 79) _ rfl (by kernel_rfl) b5 0 rfl (InstV.arr ⟨0, rd, r1, r2, 0⟩).toList 69 R2.out .i64 ((nth [16, 17, 18] f3 : Nat) : Int) rfl info_int1 (show 0 < 5 by decide) ?_))
      intro wA bA uA zA
      have R3 := Lib.hid bA
      have V4 := Lib.hid (V3.out.trans uA)
      clear bA uA zA R2 V3
      have R2 := R3
      have V3 := V4
      clear R3 V4
      go_wp2_with (first
        | go_skip
        | ((with_reducible refine at_st 80 ?_); refine L_store_int 3 (.tmp 80) _ rfl (by kernel_rfl) b5 1 rfl _ 69 R2.out .i64 0 rfl info_int1 (show 1 < 5 by decide) ?_))
      intro wA bA uA zA
      have R3 := Lib.hid bA
      have V4 := Lib.hid (V3.out.trans uA)
      clear bA uA zA R2 V3
      have R2 := R3
      have V3 := V4
      clear R3 V4
      go_wp2_with (first
        | go_skip
        | ((with_reducible refine at_st 81 ?_); refine L_store_int 21 (.tmp 81) _ rfl (by kernel_rfl) b5 4 rfl _ 69 R2.out .i32 (immS w) rfl info_i32 (show 4 < 5 by decide) ?_))
      intro wA bA uA zA
      have R3 := Lib.hid bA
      have V4 := Lib.hid (V3.out.trans uA)
      clear bA uA zA R2 V3
      have R2 := R3
      have V3 := V4
      clear R3 V4
      try go_wp2_with (fail)
      go_meet
      case rel => exact ⟨_, rfl, InstV.mk (nth [16, 17, 18] f3) 0 r1 r2 (immS w), R2, V3, Lib.hid ((by rw [HD.out]; exact fix35 w f3 f7 rd r1 r2 h3))⟩
    have d35 : ((code : Int) == 35) = false := (cast_ne_b q35).1
    by_cases q19 : code = 19
    · subst q19
      go_wp2_with (fail)
      refine (RI.out f3 _ h3).mono ?_
      rintro e w3 ⟨rfl, u3⟩
      have V3 := Lib.hid (u3.mono (T := [b5]) (by simp))
      have R2 := Lib.hid (u3.keep P5.out (by simp))
      clear u3
      go_wp2_with (first
        | go_skip
        | ((with_reducible refine at_st 90 ?_); refine L_store_int 3 (.tmp 90) _ rfl (by kernel_rfl) b5 0 rfl (InstV.arr ⟨0, rd, r1, r2, 0⟩).toList 69 R2.out .i64 (immO f3 f7 : Int) rfl info_int1 (show 0 < 5 by decide) ?_))
      intro wA bA uA zA
      have R3 := Lib.hid bA
      have V4 := Lib.hid (V3.out.trans uA)
      clear bA uA zA R2 V3
      have R2 := R3
      have V3 := V4
      clear R3 V4
      go_wp2_with (first
        | go_skip
        | ((with_reducible refine at_st 91 ?_); refine L_store_int 21 (.tmp 91) _ rfl (by kernel_rfl) b5 4 rfl _ 69 R2.out .i32 (immV w f3 f7) rfl info_i32 (show 4 < 5 by decide) ?_))
      intro wA bA uA zA
      have R3 := Lib.hid bA
      have V4 := Lib.hid (V3.out.trans uA)
      clear bA uA zA R2 V3
      have R2 := R3
      have V3 := V4
      clear R3 V4
      go_wp2_with (first
        | go_skip
        | ((with_reducible refine at_st 92 ?_); refine L_store_int 3 (.tmp 92) _ rfl (by kernel_rfl) b5 3 rfl _ 69 R2.out .i64 0 rfl info_int1 (show 3 < 5 by decide) ?_))
      intro wA bA uA zA
      have R3 := Lib.hid bA
      have V4 := Lib.hid (V3.out.trans uA)
      clear bA uA zA R2 V3
      have R2 := R3
      have V3 := V4
      clear R3 V4
      try go_wp2_with (fail)
      go_meet
      case rel => exact ⟨_, rfl, InstV.mk (immO f3 f7) rd r1 0 (immV w f3 f7), R2, V3, Lib.hid ((by rw [HD.out]; exact FX.out f3 f7 rd r1 h3))⟩
    have d19 : ((code : Int) == 19) = false := (cast_ne_b q19).1
    by_cases q51 : code = 51
    · subst q51
      go_wp2_with (fail)
      refine (B7.out _).mono ?_
      rintro e w3 ⟨rfl, rfl⟩
      go_wp2_with (fail)
      refine (arith_calls f7 f3 h3 h7 _).mono ?_
      rintro e w3 ⟨rfl, u3⟩
      have V3 := Lib.hid (u3.mono (T := [b5]) (by simp))
      have R2 := Lib.hid (u3.keep P5.out (by simp))
      clear u3
      go_wp2_with (first
        | go_skip
        | ((with_reducible refine at_st 99 ?_); refine L_store_int 3 (.tmp 99) _ rfl (by kernel_rfl) b5 0 rfl (InstV.arr ⟨0, rd, r1, r2, 0⟩).toList 69 R2.out .i64 (opR f7 f3 : Int) rfl info_int1 (show 0 < 5 by decide) ?_))
      intro wA bA uA zA
      have R3 := Lib.hid bA
      have V4 := Lib.hid (V3.out.trans uA)
      clear bA uA zA R2 V3
      have R2 := R3
      have V3 := V4
      clear R3 V4
      try go_wp2_with (fail)
      go_meet
      case rel => exact ⟨_, rfl, InstV.mk (opR f7 f3) rd r1 r2 0, R2, V3, Lib.hid ((by rw [HD.out]; rfl))⟩
    have d51 : ((code : Int) == 51) = false := (cast_ne_b q51).1
    by_cases q15 : code = 15
    · subst q15
      go_wp2_with (fail)
      refine (pick_calls _ [46] _ _ f3 _ rfl (numsAt_new _ .i64 [46] 3) (by omega) (by decide)).mono ?_
      rintro e z1 ⟨rfl, rfl⟩
      have R2 := Lib.hid (heap_old P5.out (.cells (nums .i64 [46]) 3))
      have V3 := Lib.hid ((Upd.refl [b5] W).alloc (.cells (nums .i64 [46]) 3))
      generalize hX : World.alloc W _ = X
      have hX2 : W.alloc (.cells (nums .i64 [46]) 3) = X := hX
      rw [hX2] at R2 V3
      clear hX hX2
      go_wp2_with (first
        | go_skip
        | ((with_reducible refine at_st 5 ?_); refine L_store_row 69 (.tmp 5) (.tmp 105) rfl (by kernel_rfl) b5 0 rfl (InstV.arr ⟨0, rd, r1, r2, 0⟩).toList 69 R2.out (InstV.arr ⟨nth [46] f3, 0, 0, 0, 0⟩) rfl 5 info_inst rfl (show 5 ≤ 5 by decide) (InstV.one _) ?_))
      intro wA bA uA zA
      rw [spl_all (by rfl)] at bA
      have V4 := Lib.hid (V3.out.trans uA)
      clear R2 V3
      have R2 : Hid (wA.heap[b5]? = some (.cells (InstV.arr ⟨nth [46] f3, 0, 0, 0, 0⟩) 69 (0, 0))) := Lib.hid bA
      have V3 := V4
      clear bA uA zA V4
      try go_wp2_with (fail)
      go_meet
      case rel => exact ⟨_, rfl, InstV.mk (nth [46] f3) 0 0 0 0, R2, V3, Lib.hid ((by rw [HD.out]; exact fix15 w f3 f7 rd r1 r2 h3))⟩
    have d15 : ((code : Int) == 15) = false := (cast_ne_b q15).1
    by_cases q115 : code = 115
    · subst q115
      go_wp2_with (first
        | go_skip
        | (refine L_load 69 (.tmp 5) rfl (by kernel_rfl) _ _ rfl (InstV.arr ⟨0, rd, r1, r2, 0⟩) (row_range P5.out) Tryz.underlying69 rfl 5 info_inst rfl ?_))
      have HE : Hid (fixI (rsysP w f3 rd r1) = D) := Lib.hid (by rw [HD.out]; exact fix_sys w f3 rd r1)
      refine (rsys_calls w f3 rd r1 r2 hw h3 _).mono ?_
      rintro e w3 ⟨rfl, u3⟩
      have K2 := Lib.hid (u3.keep EW.out (by simp))
      have UC := Lib.hid (UW.out.trans u3)
      clear u3
      generalize rsysP w f3 rd r1 = I at HE ⊢
      by_cases hz : I.op = 0
      · have e1 : fixI I = noI := by unfold fixI; rw [if_pos hz]
        rw [show decide (0 < I.op) = false by rw [hz]; rfl]
        have HE2 : Hid (noI = D) := Lib.hid (by rw [← HE.out, e1])
        clear hz e1
        go_wp2_with (first
          | go_skip
          | (refine L_store_new 69 (.tmp 6) (.tmp 113) rfl (by kernel_rfl) _ I.arr rfl rfl 5 info_inst rfl rfl (InstV.one _) ?_)
          | ((with_reducible refine at_st 2 ?_); refine L_store_row 69 (.tmp 2) (.tmp 117) rfl (by kernel_rfl) zz.heap.size 0 rfl noI.arr.toList 69 (heap_old K2.out _) noI.arr rfl 5 info_inst rfl (show 5 ≤ 5 by decide) (InstV.one _) ?_))
        intro wZ bZ uZ zZ
        rw [spl_all (by rfl)] at bZ
        go_wp2_with (fail)
        refine bodyPost_ret (results_row_tmp rfl _ _ zz.heap.size 69 noI.arr _ _ _ rfl rfl bZ Tryz.underlying69 rfl info_inst) rfl ⟨by rw [← HE2.out]; rfl, ?_⟩
        exact (UC.out.alloc _).then uZ (fun x hx hlt => by simp at hx; omega)
      · have e1 : fixI I = I := by unfold fixI; rw [if_neg hz]
        rw [show decide (0 < I.op) = true by rw [decide_eq_true_iff]; omega]
        have HE2 : Hid (I = D) := Lib.hid (by rw [← HE.out, e1])
        have HZ := Lib.hid hz
        clear hz e1
        go_wp2_with (first
          | go_skip
          | (refine L_store_new 69 (.tmp 6) (.tmp 113) rfl (by kernel_rfl) _ I.arr rfl rfl 5 info_inst rfl rfl (InstV.one _) ?_)
          | (refine L_load 69 (.tmp 6) rfl (by kernel_rfl) _ _ rfl I.arr (row_range (hl1 _ _)) Tryz.underlying69 rfl 5 info_inst rfl ?_)
          | ((with_reducible refine at_st 2 ?_); refine L_store_row 69 (.tmp 2) (.tmp 118) rfl (by kernel_rfl) zz.heap.size 0 rfl noI.arr.toList 69 (heap_old K2.out _) I.arr rfl 5 info_inst rfl (show 5 ≤ 5 by decide) (InstV.one _) ?_))
        intro wZ bZ uZ zZ
        rw [spl_all (by rfl)] at bZ
        go_wp2_with (fail)
        refine bodyPost_ret (results_row_tmp rfl _ _ zz.heap.size 69 I.arr _ _ _ rfl rfl bZ Tryz.underlying69 rfl info_inst) rfl ⟨by rw [← HE2.out, decide_eq_true HZ.out]; rfl, ?_⟩
        exact (UC.out.alloc _).then uZ (fun x hx hlt => by simp at hx; omega)
    have d115 : ((code : Int) == 115) = false := (cast_ne_b q115).1
    have HE : Hid (noI = D) := Lib.hid (by rw [HD.out]; simp [codeP, *])
    clear q55 q23 q111 q103 q99 q3 q35 q19 q51 q15 q115
    go_wp2_with (first
      | go_skip
      | ((with_reducible refine at_st 2 ?_); refine L_store_row 69 (.tmp 2) (.tmp 22) rfl (by kernel_rfl) zz.heap.size 0 rfl noI.arr.toList 69 EW.out (InstV.arr noI) rfl 5 info_inst rfl (show 5 ≤ 5 by decide) (InstV.one _) ?_))
    intro wZ bZ uZ zZ
    rw [spl_all (by rfl)] at bZ
    go_wp2_with (fail)
    refine bodyPost_ret (results_row_tmp rfl _ _ zz.heap.size 69 (InstV.arr noI) _ _ _ rfl rfl bZ Tryz.underlying69 rfl info_inst) rfl ⟨by rw [← HE.out]; rfl, ?_⟩
    exact (UW.out).then uZ (fun x hx hlt => by simp at hx; omega)
  case rest =>
    obtain ⟨u, rfl, I, H5, HU, HF⟩ := hcut
    have K2 := Lib.hid (HU.out.keep EW.out (by simp [h25]))
    have UC := Lib.hid (UW.out.then HU.out (fun x hx hlt => by simp at hx; omega))
    clear HU UW EW P5 HD B7 RI FX ec
    have m0 : wc.cell? ⟨b5, 0, none⟩ = some (.int .i64 (I.op : Int)) := by rw [cells_of H5.out]; rfl
    by_cases hz : I.op = 0
    · have HE : Hid (noI = D) := Lib.hid (by rw [← HF.out]; unfold fixI; rw [if_pos hz])
      rw [hz] at m0
      clear hz HF H5
      go_wp2_with (first
        | go_skip
        | ((with_reducible refine at_st 2 ?_); refine L_store_row 69 (.tmp 2) (.tmp 122) rfl (by kernel_rfl) zz.heap.size 0 rfl noI.arr.toList 69 K2.out (InstV.arr noI) rfl 5 info_inst rfl (show 5 ≤ 5 by decide) (InstV.one _) ?_))
      intro wZ bZ uZ zZ
      rw [spl_all (by rfl)] at bZ
      go_wp2_with (fail)
      refine bodyPost_ret (results_row_tmp rfl _ _ zz.heap.size 69 (InstV.arr noI) _ _ _ rfl rfl bZ Tryz.underlying69 rfl info_inst) rfl ⟨by rw [← HE.out]; rfl, ?_⟩
      exact (UC.out).then uZ (fun x hx hlt => by simp at hx; omega)
    · have HE : Hid (I = D) := Lib.hid (by rw [← HF.out]; unfold fixI; rw [if_neg hz])
      have HZ := Lib.hid hz
      have d0 : ((I.op : Int) == 0) = false := (cast_ne_b hz).1
      clear hz HF
      go_wp2_with (first
        | go_skip
        | (refine L_load 69 (.tmp 5) rfl (by kernel_rfl) _ _ rfl I.arr (row_range H5.out) Tryz.underlying69 rfl 5 info_inst rfl ?_)
        | ((with_reducible refine at_st 2 ?_); refine L_store_row 69 (.tmp 2) (.tmp 123) rfl (by kernel_rfl) zz.heap.size 0 rfl noI.arr.toList 69 K2.out I.arr rfl 5 info_inst rfl (show 5 ≤ 5 by decide) (InstV.one _) ?_))
      intro wZ bZ uZ zZ
      rw [spl_all (by rfl)] at bZ
      go_wp2_with (fail)
      refine bodyPost_ret (results_row_tmp rfl _ _ zz.heap.size 69 I.arr _ _ _ rfl rfl bZ Tryz.underlying69 rfl info_inst) rfl ⟨by rw [← HE.out, decide_eq_true HZ.out]; rfl, ?_⟩
      exact UC.out.then uZ (fun x hx hlt => by simp at hx; omega)
end Go.Proofs.YtmdjhahafjlebaaGreatDoor

namespace Go.Proofs.YtmdjhahafjlebaaGreatDoor
open Go.RowKit Go.Dio
set_option linter.unusedSimpArgs false
set_option linter.unusedVariables false

/-- The kind of an op: a letter. -/
def fmtP (op : Nat) : Nat :=
  if op = 1 ∨ op = 2 then 85 else if op = 3 then 74 else if op = 4 ∨ 11 ≤ op ∧ op ≤ 15 ∨ 19 ≤ op ∧ op ≤ 24 then 73
  else if 5 ≤ op ∧ op ≤ 10 then 66 else if 16 ≤ op ∧ op ≤ 18 then 83 else if 25 ≤ op ∧ op ≤ 27 then 72
  else if 28 ≤ op ∧ op ≤ 45 then 82 else if 50 ≤ op ∧ op ≤ 55 then 67 else if 46 ≤ op ∧ op ≤ 49 then 78 else 0
theorem fmt_calls (op : Nat) (z : World) (ho : op ≤ 55) :
    Calls Tryz.prog 64 #[.int .i64 (op : Int)] z fun e z' => e = .returned (.int .u8 (fmtP op : Int)) ∧ z' = z := by
  rcases (by omega : op = 0 ∨ op = 1 ∨ op = 2 ∨ op = 3 ∨ op = 4 ∨ (5 ≤ op ∧ op ≤ 10) ∨ (11 ≤ op ∧ op ≤ 15) ∨ (16 ≤ op ∧ op ≤ 18) ∨ (19 ≤ op ∧ op ≤ 24) ∨ (25 ≤ op ∧ op ≤ 27) ∨ (28 ≤ op ∧ op ≤ 45) ∨ (46 ≤ op ∧ op ≤ 49) ∨ (50 ≤ op ∧ op ≤ 55)) with rfl | rfl | rfl | rfl | rfl | h | h | h | h | h | h | h | h
  iterate 5
    ·
      go_enter Tryz.func64, Tryz.ntmps64
      go_wp2_with (fail)
      go_ret
      exact ⟨rfl, rfl⟩
  · obtain ⟨hl, hh⟩ := h
    have e1 : ((op : Int) == 1) = false := by rw [beq_eq_false_iff_ne]; omega
    have e2 : ((op : Int) == 2) = false := by rw [beq_eq_false_iff_ne]; omega
    have e3 : ((op : Int) == 3) = false := by rw [beq_eq_false_iff_ne]; omega
    have e4 : ((op : Int) == 4) = false := by rw [beq_eq_false_iff_ne]; omega
    have g11 : decide ((11 : Int) ≤ (op : Int)) = false := decide_eq_false (by omega)
    have l15 : decide ((op : Int) ≤ 15) = true := decide_eq_true (by omega)
    have g19 : decide ((19 : Int) ≤ (op : Int)) = false := decide_eq_false (by omega)
    have l24 : decide ((op : Int) ≤ 24) = true := decide_eq_true (by omega)
    have g5 : decide ((5 : Int) ≤ (op : Int)) = true := decide_eq_true (by omega)
    have l10 : decide ((op : Int) ≤ 10) = true := decide_eq_true (by omega)
    have g16 : decide ((16 : Int) ≤ (op : Int)) = false := decide_eq_false (by omega)
    have l18 : decide ((op : Int) ≤ 18) = true := decide_eq_true (by omega)
    have g25 : decide ((25 : Int) ≤ (op : Int)) = false := decide_eq_false (by omega)
    have l27 : decide ((op : Int) ≤ 27) = true := decide_eq_true (by omega)
    have g28 : decide ((28 : Int) ≤ (op : Int)) = false := decide_eq_false (by omega)
    have l45 : decide ((op : Int) ≤ 45) = true := decide_eq_true (by omega)
    have g50 : decide ((50 : Int) ≤ (op : Int)) = false := decide_eq_false (by omega)
    have l55 : decide ((op : Int) ≤ 55) = true := decide_eq_true (by omega)
    have g46 : decide ((46 : Int) ≤ (op : Int)) = false := decide_eq_false (by omega)
    have l49 : decide ((op : Int) ≤ 49) = true := decide_eq_true (by omega)
    have hf : fmtP op = 66 := by unfold fmtP; repeat (first | (rw [if_pos (by omega)]; done) | rw [if_neg (by omega)])
    rw [hf]
    clear hf hl hh ho
    go_enter Tryz.func64, Tryz.ntmps64
    go_wp2_with (fail)
    go_ret
    exact ⟨rfl, rfl⟩
  · obtain ⟨hl, hh⟩ := h
    have e1 : ((op : Int) == 1) = false := by rw [beq_eq_false_iff_ne]; omega
    have e2 : ((op : Int) == 2) = false := by rw [beq_eq_false_iff_ne]; omega
    have e3 : ((op : Int) == 3) = false := by rw [beq_eq_false_iff_ne]; omega
    have e4 : ((op : Int) == 4) = false := by rw [beq_eq_false_iff_ne]; omega
    have g11 : decide ((11 : Int) ≤ (op : Int)) = true := decide_eq_true (by omega)
    have l15 : decide ((op : Int) ≤ 15) = true := decide_eq_true (by omega)
    have g19 : decide ((19 : Int) ≤ (op : Int)) = false := decide_eq_false (by omega)
    have l24 : decide ((op : Int) ≤ 24) = true := decide_eq_true (by omega)
    have g5 : decide ((5 : Int) ≤ (op : Int)) = true := decide_eq_true (by omega)
    have l10 : decide ((op : Int) ≤ 10) = false := decide_eq_false (by omega)
    have g16 : decide ((16 : Int) ≤ (op : Int)) = false := decide_eq_false (by omega)
    have l18 : decide ((op : Int) ≤ 18) = true := decide_eq_true (by omega)
    have g25 : decide ((25 : Int) ≤ (op : Int)) = false := decide_eq_false (by omega)
    have l27 : decide ((op : Int) ≤ 27) = true := decide_eq_true (by omega)
    have g28 : decide ((28 : Int) ≤ (op : Int)) = false := decide_eq_false (by omega)
    have l45 : decide ((op : Int) ≤ 45) = true := decide_eq_true (by omega)
    have g50 : decide ((50 : Int) ≤ (op : Int)) = false := decide_eq_false (by omega)
    have l55 : decide ((op : Int) ≤ 55) = true := decide_eq_true (by omega)
    have g46 : decide ((46 : Int) ≤ (op : Int)) = false := decide_eq_false (by omega)
    have l49 : decide ((op : Int) ≤ 49) = true := decide_eq_true (by omega)
    have hf : fmtP op = 73 := by unfold fmtP; repeat (first | (rw [if_pos (by omega)]; done) | rw [if_neg (by omega)])
    rw [hf]
    clear hf hl hh ho
    go_enter Tryz.func64, Tryz.ntmps64
    go_wp2_with (fail)
    go_ret
    exact ⟨rfl, rfl⟩
  · obtain ⟨hl, hh⟩ := h
    have e1 : ((op : Int) == 1) = false := by rw [beq_eq_false_iff_ne]; omega
    have e2 : ((op : Int) == 2) = false := by rw [beq_eq_false_iff_ne]; omega
    have e3 : ((op : Int) == 3) = false := by rw [beq_eq_false_iff_ne]; omega
    have e4 : ((op : Int) == 4) = false := by rw [beq_eq_false_iff_ne]; omega
    have g11 : decide ((11 : Int) ≤ (op : Int)) = true := decide_eq_true (by omega)
    have l15 : decide ((op : Int) ≤ 15) = false := decide_eq_false (by omega)
    have g19 : decide ((19 : Int) ≤ (op : Int)) = false := decide_eq_false (by omega)
    have l24 : decide ((op : Int) ≤ 24) = true := decide_eq_true (by omega)
    have g5 : decide ((5 : Int) ≤ (op : Int)) = true := decide_eq_true (by omega)
    have l10 : decide ((op : Int) ≤ 10) = false := decide_eq_false (by omega)
    have g16 : decide ((16 : Int) ≤ (op : Int)) = true := decide_eq_true (by omega)
    have l18 : decide ((op : Int) ≤ 18) = true := decide_eq_true (by omega)
    have g25 : decide ((25 : Int) ≤ (op : Int)) = false := decide_eq_false (by omega)
    have l27 : decide ((op : Int) ≤ 27) = true := decide_eq_true (by omega)
    have g28 : decide ((28 : Int) ≤ (op : Int)) = false := decide_eq_false (by omega)
    have l45 : decide ((op : Int) ≤ 45) = true := decide_eq_true (by omega)
    have g50 : decide ((50 : Int) ≤ (op : Int)) = false := decide_eq_false (by omega)
    have l55 : decide ((op : Int) ≤ 55) = true := decide_eq_true (by omega)
    have g46 : decide ((46 : Int) ≤ (op : Int)) = false := decide_eq_false (by omega)
    have l49 : decide ((op : Int) ≤ 49) = true := decide_eq_true (by omega)
    have hf : fmtP op = 83 := by unfold fmtP; repeat (first | (rw [if_pos (by omega)]; done) | rw [if_neg (by omega)])
    rw [hf]
    clear hf hl hh ho
    go_enter Tryz.func64, Tryz.ntmps64
    go_wp2_with (fail)
    go_ret
    exact ⟨rfl, rfl⟩
  · obtain ⟨hl, hh⟩ := h
    have e1 : ((op : Int) == 1) = false := by rw [beq_eq_false_iff_ne]; omega
    have e2 : ((op : Int) == 2) = false := by rw [beq_eq_false_iff_ne]; omega
    have e3 : ((op : Int) == 3) = false := by rw [beq_eq_false_iff_ne]; omega
    have e4 : ((op : Int) == 4) = false := by rw [beq_eq_false_iff_ne]; omega
    have g11 : decide ((11 : Int) ≤ (op : Int)) = true := decide_eq_true (by omega)
    have l15 : decide ((op : Int) ≤ 15) = false := decide_eq_false (by omega)
    have g19 : decide ((19 : Int) ≤ (op : Int)) = true := decide_eq_true (by omega)
    have l24 : decide ((op : Int) ≤ 24) = true := decide_eq_true (by omega)
    have g5 : decide ((5 : Int) ≤ (op : Int)) = true := decide_eq_true (by omega)
    have l10 : decide ((op : Int) ≤ 10) = false := decide_eq_false (by omega)
    have g16 : decide ((16 : Int) ≤ (op : Int)) = true := decide_eq_true (by omega)
    have l18 : decide ((op : Int) ≤ 18) = false := decide_eq_false (by omega)
    have g25 : decide ((25 : Int) ≤ (op : Int)) = false := decide_eq_false (by omega)
    have l27 : decide ((op : Int) ≤ 27) = true := decide_eq_true (by omega)
    have g28 : decide ((28 : Int) ≤ (op : Int)) = false := decide_eq_false (by omega)
    have l45 : decide ((op : Int) ≤ 45) = true := decide_eq_true (by omega)
    have g50 : decide ((50 : Int) ≤ (op : Int)) = false := decide_eq_false (by omega)
    have l55 : decide ((op : Int) ≤ 55) = true := decide_eq_true (by omega)
    have g46 : decide ((46 : Int) ≤ (op : Int)) = false := decide_eq_false (by omega)
    have l49 : decide ((op : Int) ≤ 49) = true := decide_eq_true (by omega)
    have hf : fmtP op = 73 := by unfold fmtP; repeat (first | (rw [if_pos (by omega)]; done) | rw [if_neg (by omega)])
    rw [hf]
    clear hf hl hh ho
    go_enter Tryz.func64, Tryz.ntmps64
    go_wp2_with (fail)
    go_ret
    exact ⟨rfl, rfl⟩
  · obtain ⟨hl, hh⟩ := h
    have e1 : ((op : Int) == 1) = false := by rw [beq_eq_false_iff_ne]; omega
    have e2 : ((op : Int) == 2) = false := by rw [beq_eq_false_iff_ne]; omega
    have e3 : ((op : Int) == 3) = false := by rw [beq_eq_false_iff_ne]; omega
    have e4 : ((op : Int) == 4) = false := by rw [beq_eq_false_iff_ne]; omega
    have g11 : decide ((11 : Int) ≤ (op : Int)) = true := decide_eq_true (by omega)
    have l15 : decide ((op : Int) ≤ 15) = false := decide_eq_false (by omega)
    have g19 : decide ((19 : Int) ≤ (op : Int)) = true := decide_eq_true (by omega)
    have l24 : decide ((op : Int) ≤ 24) = false := decide_eq_false (by omega)
    have g5 : decide ((5 : Int) ≤ (op : Int)) = true := decide_eq_true (by omega)
    have l10 : decide ((op : Int) ≤ 10) = false := decide_eq_false (by omega)
    have g16 : decide ((16 : Int) ≤ (op : Int)) = true := decide_eq_true (by omega)
    have l18 : decide ((op : Int) ≤ 18) = false := decide_eq_false (by omega)
    have g25 : decide ((25 : Int) ≤ (op : Int)) = true := decide_eq_true (by omega)
    have l27 : decide ((op : Int) ≤ 27) = true := decide_eq_true (by omega)
    have g28 : decide ((28 : Int) ≤ (op : Int)) = false := decide_eq_false (by omega)
    have l45 : decide ((op : Int) ≤ 45) = true := decide_eq_true (by omega)
    have g50 : decide ((50 : Int) ≤ (op : Int)) = false := decide_eq_false (by omega)
    have l55 : decide ((op : Int) ≤ 55) = true := decide_eq_true (by omega)
    have g46 : decide ((46 : Int) ≤ (op : Int)) = false := decide_eq_false (by omega)
    have l49 : decide ((op : Int) ≤ 49) = true := decide_eq_true (by omega)
    have hf : fmtP op = 72 := by unfold fmtP; repeat (first | (rw [if_pos (by omega)]; done) | rw [if_neg (by omega)])
    rw [hf]
    clear hf hl hh ho
    go_enter Tryz.func64, Tryz.ntmps64
    go_wp2_with (fail)
    go_ret
    exact ⟨rfl, rfl⟩
  · obtain ⟨hl, hh⟩ := h
    have e1 : ((op : Int) == 1) = false := by rw [beq_eq_false_iff_ne]; omega
    have e2 : ((op : Int) == 2) = false := by rw [beq_eq_false_iff_ne]; omega
    have e3 : ((op : Int) == 3) = false := by rw [beq_eq_false_iff_ne]; omega
    have e4 : ((op : Int) == 4) = false := by rw [beq_eq_false_iff_ne]; omega
    have g11 : decide ((11 : Int) ≤ (op : Int)) = true := decide_eq_true (by omega)
    have l15 : decide ((op : Int) ≤ 15) = false := decide_eq_false (by omega)
    have g19 : decide ((19 : Int) ≤ (op : Int)) = true := decide_eq_true (by omega)
    have l24 : decide ((op : Int) ≤ 24) = false := decide_eq_false (by omega)
    have g5 : decide ((5 : Int) ≤ (op : Int)) = true := decide_eq_true (by omega)
    have l10 : decide ((op : Int) ≤ 10) = false := decide_eq_false (by omega)
    have g16 : decide ((16 : Int) ≤ (op : Int)) = true := decide_eq_true (by omega)
    have l18 : decide ((op : Int) ≤ 18) = false := decide_eq_false (by omega)
    have g25 : decide ((25 : Int) ≤ (op : Int)) = true := decide_eq_true (by omega)
    have l27 : decide ((op : Int) ≤ 27) = false := decide_eq_false (by omega)
    have g28 : decide ((28 : Int) ≤ (op : Int)) = true := decide_eq_true (by omega)
    have l45 : decide ((op : Int) ≤ 45) = true := decide_eq_true (by omega)
    have g50 : decide ((50 : Int) ≤ (op : Int)) = false := decide_eq_false (by omega)
    have l55 : decide ((op : Int) ≤ 55) = true := decide_eq_true (by omega)
    have g46 : decide ((46 : Int) ≤ (op : Int)) = false := decide_eq_false (by omega)
    have l49 : decide ((op : Int) ≤ 49) = true := decide_eq_true (by omega)
    have hf : fmtP op = 82 := by unfold fmtP; repeat (first | (rw [if_pos (by omega)]; done) | rw [if_neg (by omega)])
    rw [hf]
    clear hf hl hh ho
    go_enter Tryz.func64, Tryz.ntmps64
    go_wp2_with (fail)
    go_ret
    exact ⟨rfl, rfl⟩
  · obtain ⟨hl, hh⟩ := h
    have e1 : ((op : Int) == 1) = false := by rw [beq_eq_false_iff_ne]; omega
    have e2 : ((op : Int) == 2) = false := by rw [beq_eq_false_iff_ne]; omega
    have e3 : ((op : Int) == 3) = false := by rw [beq_eq_false_iff_ne]; omega
    have e4 : ((op : Int) == 4) = false := by rw [beq_eq_false_iff_ne]; omega
    have g11 : decide ((11 : Int) ≤ (op : Int)) = true := decide_eq_true (by omega)
    have l15 : decide ((op : Int) ≤ 15) = false := decide_eq_false (by omega)
    have g19 : decide ((19 : Int) ≤ (op : Int)) = true := decide_eq_true (by omega)
    have l24 : decide ((op : Int) ≤ 24) = false := decide_eq_false (by omega)
    have g5 : decide ((5 : Int) ≤ (op : Int)) = true := decide_eq_true (by omega)
    have l10 : decide ((op : Int) ≤ 10) = false := decide_eq_false (by omega)
    have g16 : decide ((16 : Int) ≤ (op : Int)) = true := decide_eq_true (by omega)
    have l18 : decide ((op : Int) ≤ 18) = false := decide_eq_false (by omega)
    have g25 : decide ((25 : Int) ≤ (op : Int)) = true := decide_eq_true (by omega)
    have l27 : decide ((op : Int) ≤ 27) = false := decide_eq_false (by omega)
    have g28 : decide ((28 : Int) ≤ (op : Int)) = true := decide_eq_true (by omega)
    have l45 : decide ((op : Int) ≤ 45) = false := decide_eq_false (by omega)
    have g50 : decide ((50 : Int) ≤ (op : Int)) = false := decide_eq_false (by omega)
    have l55 : decide ((op : Int) ≤ 55) = true := decide_eq_true (by omega)
    have g46 : decide ((46 : Int) ≤ (op : Int)) = true := decide_eq_true (by omega)
    have l49 : decide ((op : Int) ≤ 49) = true := decide_eq_true (by omega)
    have hf : fmtP op = 78 := by unfold fmtP; repeat (first | (rw [if_pos (by omega)]; done) | rw [if_neg (by omega)])
    rw [hf]
    clear hf hl hh ho
    go_enter Tryz.func64, Tryz.ntmps64
    go_wp2_with (fail)
    go_ret
    exact ⟨rfl, rfl⟩
  · obtain ⟨hl, hh⟩ := h
    have e1 : ((op : Int) == 1) = false := by rw [beq_eq_false_iff_ne]; omega
    have e2 : ((op : Int) == 2) = false := by rw [beq_eq_false_iff_ne]; omega
    have e3 : ((op : Int) == 3) = false := by rw [beq_eq_false_iff_ne]; omega
    have e4 : ((op : Int) == 4) = false := by rw [beq_eq_false_iff_ne]; omega
    have g11 : decide ((11 : Int) ≤ (op : Int)) = true := decide_eq_true (by omega)
    have l15 : decide ((op : Int) ≤ 15) = false := decide_eq_false (by omega)
    have g19 : decide ((19 : Int) ≤ (op : Int)) = true := decide_eq_true (by omega)
    have l24 : decide ((op : Int) ≤ 24) = false := decide_eq_false (by omega)
    have g5 : decide ((5 : Int) ≤ (op : Int)) = true := decide_eq_true (by omega)
    have l10 : decide ((op : Int) ≤ 10) = false := decide_eq_false (by omega)
    have g16 : decide ((16 : Int) ≤ (op : Int)) = true := decide_eq_true (by omega)
    have l18 : decide ((op : Int) ≤ 18) = false := decide_eq_false (by omega)
    have g25 : decide ((25 : Int) ≤ (op : Int)) = true := decide_eq_true (by omega)
    have l27 : decide ((op : Int) ≤ 27) = false := decide_eq_false (by omega)
    have g28 : decide ((28 : Int) ≤ (op : Int)) = true := decide_eq_true (by omega)
    have l45 : decide ((op : Int) ≤ 45) = false := decide_eq_false (by omega)
    have g50 : decide ((50 : Int) ≤ (op : Int)) = true := decide_eq_true (by omega)
    have l55 : decide ((op : Int) ≤ 55) = true := decide_eq_true (by omega)
    have g46 : decide ((46 : Int) ≤ (op : Int)) = true := decide_eq_true (by omega)
    have l49 : decide ((op : Int) ≤ 49) = false := decide_eq_false (by omega)
    have hf : fmtP op = 67 := by unfold fmtP; repeat (first | (rw [if_pos (by omega)]; done) | rw [if_neg (by omega)])
    rw [hf]
    clear hf hl hh ho
    go_enter Tryz.func64, Tryz.ntmps64
    go_wp2_with (fail)
    go_ret
    exact ⟨rfl, rfl⟩
end Go.Proofs.YtmdjhahafjlebaaGreatDoor
