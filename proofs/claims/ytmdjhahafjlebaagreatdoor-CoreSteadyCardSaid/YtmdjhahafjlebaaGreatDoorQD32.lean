/- One instruction, done: the code's. -/
import Derived.Test.YtmdjhahafjlebaaGreatDoorQD31
namespace Go.Proofs.YtmdjhahafjlebaaGreatDoor
open Go.RowKit Go.Dio
set_option linter.unusedSimpArgs false
set_option linter.unusedVariables false

def doI (pc w a b : Nat) (csrs : List Nat) (word : Nat) (i : InstV) : MadeV :=
  if i.op = 0 then trapP pc csrs 2 w
  else if i.op = 47 then trapP pc csrs 11 0
  else if i.op = 48 then trapP pc csrs 3 0
  else if i.op = 49 then ⟨⟨pc, 0, 0, false, 0, 0, 0⟩, nth csrs 2, csrs⟩
  else if 50 ≤ i.op then csrP pc w a csrs i
  else if i.op = 3 then jumpP pc csrs i (u32 ((pc : Int) + i.imm))
  else if i.op = 4 then jumpP pc csrs i (u32 ((a : Int) + i.imm) / 2 * 2)
  else if takenP i.op a b = true then jumpP pc csrs i (u32 ((pc : Int) + i.imm))
  else if 11 ≤ i.op ∧ i.op ≤ 18 then moveP pc a b csrs i word
  else
    let r := if i.op = 1 then writeR pc i.rd (u32 i.imm) else if i.op = 2 then writeR pc i.rd (u32 ((pc : Int) + i.imm))
      else if 19 ≤ i.op ∧ i.op ≤ 27 then writeR pc i.rd (aluP i.op a (u32 i.imm))
      else if 28 ≤ i.op ∧ i.op ≤ 45 then writeR pc i.rd (aluP i.op a b) else ⟨pc, 0, 0, false, 0, 0, 0⟩
    ⟨r, u32 ((pc : Int) + 4), csrs⟩
theorem doP_eq (pc w a b : Nat) (csrs : List Nat) (word : Nat) : doP pc w a b csrs word = doI pc w a b csrs word (decodeP w) := rfl
theorem pc4 (pc : Nat) : IntKind.u32.wrap ((pc : Int) + 4) = ((u32 ((pc : Int) + 4) : Nat) : Int) := wrap_u32 _
theorem pc4m (pc : Nat) : ((pc : Int) + 4) % 4294967296 = ((u32 ((pc : Int) + 4) : Nat) : Int) := mod_u32 _
theorem seen_mid {w : World} {b : Nat} {t : TypeId} {x0 x1 x2 x3 y0 y1 y2 y3 y4 : Value} (h : w.heap[b]? = some (.cells #[x0, x1, x2, x3, y0, y1, y2, y3, y4] t (0, 0))) : w.rangeAt b 4 [y0, y1, y2, y3, y4] := fun j v hv => by
  rw [cells_of h]
  match j, hv with
  | 0, hv => exact hv
  | 1, hv => exact hv
  | 2, hv => exact hv
  | 3, hv => exact hv
  | 4, hv => exact hv
  | n + 5, hv => simp at hv

theorem jumpP_eq (pc : Nat) (cs : List Nat) (i : InstV) (tg : Nat) : (if tg % 4 ≠ 0 then trapP pc cs 0 tg else ⟨writeR pc i.rd (u32 ((pc : Int) + 4)), tg, cs⟩ : MadeV) = jumpP pc cs i tg := rfl
theorem move_calls (pc w a b word : Nat) (i : InstV) (cs : List Nat) (zz : World) (hp : pc < 2 ^ 32) (hbb : b < 2 ^ 32) (hw : word < 2 ^ 32) (h5 : cs.length = 5) (ho : 11 ≤ i.op ∧ i.op ≤ 18) :
    Calls Tryz.prog 124 #[.agg (seenC pc w a b cs).toArray, .agg i.arr, .agg (mk0 pc (u32 ((pc : Int) + 4)) cs).cells.toArray, .int .u32 (word : Int)] zz fun e z' =>
      e = .returned (.agg (moveP pc a b cs i word).cells.toArray) ∧ Upd [] zz z' := by
  cases hb : (accessP i.op (u32 ((a : Int) + i.imm))).2
  · by_cases h : 16 ≤ i.op
    · exact move_store pc w a b word i cs zz hp hbb h5 ⟨h, ho.2⟩ hb
    · exact move_load pc w a b word i cs zz hw h5 ⟨ho.1, by omega⟩ hb
  · exact move_bad pc w a b (u32 ((pc : Int) + 4)) word i cs zz hp h5 ho hb
set_option maxRecDepth 20000 in
set_option maxHeartbeats 16000000 in
theorem do_calls (pc w a b word : Nat) (cs : List Nat) (zz : World) (hp : pc < 2 ^ 32) (hw : w < 2 ^ 32) (ha : a < 2 ^ 32) (hb : b < 2 ^ 32) (hwd : word < 2 ^ 32) (hcs : ∀ k, nth cs k < 2 ^ 32) (h5 : cs.length = 5) :
    Calls Tryz.prog 80 #[.agg (seenC pc w a b cs).toArray, .int .u32 (word : Int)] zz fun e z' => e = .returned (.agg (doP pc w a b cs word).cells.toArray) ∧ Upd [] zz z' := by
  have DC := Lib.hid (fun z => decode_calls w hw z)
  have hwf := decodeP_wf w
  obtain ⟨RES, hRES⟩ : ∃ RES, RES = doP pc w a b cs word := ⟨_, rfl⟩
  rw [← hRES]
  rw [doP_eq] at hRES
  generalize decodeP w = D at *
  obtain ⟨op, rd, r1, r2, imm⟩ := D
  obtain ⟨h55, hrd, hr1, hr2, hi1, hi2⟩ := hwf
  dsimp only at h55 hrd hr1 hr2 hi1 hi2 DC
  have HR := Lib.hid hRES
  clear hRES
  have q1 := pc4 pc
  have q2 := pc4m pc
  have v1 := wrap_u32 imm
  have v2 := addr_mod a imm
  have v3 := addr_wrap a imm
  have v4 := addr_mod pc imm
  have v5 := addr_wrap pc imm
  obtain ⟨next, hnext⟩ : ∃ next, next = u32 ((pc : Int) + 4) := ⟨_, rfl⟩
  rw [← hnext] at q1 q2
  have HNX := Lib.hid hnext
  clear hnext
  obtain ⟨c0, c1, c2, c3, c4, hcs5⟩ := csr5 h5
  have HCS := Lib.hid hcs5
  have hseen : (seenC pc w a b cs).toArray = #[.int .u32 (pc : Int), .int .u32 (w : Int), .int .u32 (a : Int), .int .u32 (b : Int), .int .u32 (c0 : Int), .int .u32 (c1 : Int), .int .u32 (c2 : Int), .int .u32 (c3 : Int), .int .u32 (c4 : Int)] := by rw [hcs5]; rfl
  have hmk : #[.int .u32 (pc : Int), .int .u32 0, .int .i64 0, .bool false, .int .u32 0, .int .u32 0, .int .i64 0, .int .u32 (next : Int), .int .u32 (c0 : Int), .int .u32 (c1 : Int), .int .u32 (c2 : Int), .int .u32 (c3 : Int), .int .u32 (c4 : Int)] = (mk0 pc next cs).cells.toArray := by rw [hcs5]; rfl
  have HSE := Lib.hid hseen
  have HMK := Lib.hid hmk
  rw [hseen]
  clear hseen hmk hcs5
  go_enter Tryz.func80, Tryz.ntmps80
  go_wp2_with (fail)
  have E0 := Lib.hid (heap_old (hl1 zz (.cells (seenC pc w a b cs).toArray 115)) (.cells zMade.cells.toArray 120))
  have E3 := Lib.hid (hl2 zz (.cells (seenC pc w a b cs).toArray 115) (.cells zMade.cells.toArray 120))
  have EU := Lib.hid (((Upd.refl [] zz).alloc (.cells (seenC pc w a b cs).toArray 115)).alloc (.cells zMade.cells.toArray 120))
  rw [HSE.out] at E0 E3 EU
  refine (DC.out _).mono ?_
  rintro e w1 ⟨rfl, u1⟩
  have F0 := Lib.hid (u1.keep E0.out (by simp))
  have F3 := Lib.hid (u1.keep E3.out (by simp))
  have FU := Lib.hid (EU.out.trans u1)
  clear E0 E3 EU u1 DC
  have s0 : ∀ o, (w1.alloc o).cell? ⟨zz.heap.size, 0, none⟩ = some (.int .u32 (pc : Int)) := fun o => by rw [cells_of (heap_old F0.out o)]; rfl
  have s1 : ∀ o, (w1.alloc o).cell? ⟨zz.heap.size, 1, none⟩ = some (.int .u32 (w : Int)) := fun o => by rw [cells_of (heap_old F0.out o)]; rfl
  by_cases h0 : op = 0
  · subst h0
    unfold InstV.arr
    rw [show decide ((0 : Nat) ≠ 0) = false from rfl]
    have C0 := Lib.hid (heap_old F0.out (.cells (InstV.arr ⟨0, rd, r1, r2, imm⟩) 69))
    have C3 := Lib.hid (heap_old F3.out (.cells (InstV.arr ⟨0, rd, r1, r2, imm⟩) 69))
    have U := Lib.hid (FU.out.alloc (.cells (InstV.arr ⟨0, rd, r1, r2, imm⟩) 69))
    rw [← HSE.out] at C0
    go_wp2_with (first
      | go_skip
      | ((with_reducible refine at_op 17 ?_); refine L_load 115 (.tmp 2) rfl (by kernel_rfl) _ _ rfl (seenC pc w a b cs).toArray (row_range C0.out) Tryz.underlying115 rfl 9 info_seen rfl ?_))
    refine (trap_calls pc w a b 2 w cs _ hp (by decide) h5).mono ?_
    rintro e z1 ⟨rfl, rfl⟩
    generalize hMM : trapP pc cs 2 w = MM
    have HMM := Lib.hid hMM
    clear hMM
    go_wp2_with (first
      | go_skip
      | ((with_reducible refine at_st 4 ?_); refine L_store_row 120 (.tmp 4) (.tmp 20) rfl (by kernel_rfl) (zz.heap.size + 1) 0 rfl zMade.cells 120 (heap_old (heap_old (heap_old C3.out _) _) _) MM.cells.toArray rfl 13 info_made rfl (by decide) (MadeV.one _) ?_))
    intro wZ bZ uZ zZ
    rw [spl_all (by rfl)] at bZ
    go_wp2_with (fail)
    refine bodyPost_ret (results_cell_row rfl _ _ (zz.heap.size + 1) 120 MM.cells.toArray _ _ rfl bZ Tryz.underlying120 rfl info_made) rfl ⟨by rw [HR.out, ← HMM.out, (show doI pc w a b cs word ⟨0, rd, r1, r2, imm⟩ = trapP pc cs 2 w from rfl)], ?_⟩
    exact ((((U.out.alloc _).alloc _).alloc _)).then uZ (fun x hx hlt => by simp at hx; omega)
  have hok : decide (op ≠ 0) = true := decide_eq_true h0
  rw [hok]
  clear hok
  unfold InstV.arr
  go_upto_region 6 with (first
    | go_skip
    | ((with_reducible refine at_op 28 ?_); refine L_load 42 (.tmp 27) rfl (by kernel_rfl) zz.heap.size 4 rfl #[.int .u32 (c0 : Int), .int .u32 (c1 : Int), .int .u32 (c2 : Int), .int .u32 (c3 : Int), .int .u32 (c4 : Int)] (seen_mid (heap_old F0.out _)) Tryz.underlying42 rfl 5 info_c5 rfl ?_))
  have B5 := hl1 w1 (.cells (InstV.arr ⟨op, rd, r1, r2, imm⟩) 69)
  have B7 := hl2 w1 (.cells (InstV.arr ⟨op, rd, r1, r2, imm⟩) 69) (.cells (mk0 pc next cs).cells.toArray 120)
  have C0 := Lib.hid (heap_old (heap_old F0.out (.cells (InstV.arr ⟨op, rd, r1, r2, imm⟩) 69)) (.cells (mk0 pc next cs).cells.toArray 120))
  have C3 := Lib.hid (heap_old (heap_old F3.out (.cells (InstV.arr ⟨op, rd, r1, r2, imm⟩) 69)) (.cells (mk0 pc next cs).cells.toArray 120))
  have C5 := Lib.hid (heap_old B5 (.cells (mk0 pc next cs).cells.toArray 120))
  have C7 := Lib.hid B7
  have U := Lib.hid ((FU.out.alloc (.cells (InstV.arr ⟨op, rd, r1, r2, imm⟩) 69)).alloc (.cells (mk0 pc next cs).cells.toArray 120))
  rw [← HSE.out] at C0
  have hn1 := lt_of_block F3.out
  clear B5 B7 F0 F3 FU s0 s1
  generalize hW : World.alloc (World.alloc w1 _) _ = W
  have hW2 : (w1.alloc (.cells (InstV.arr ⟨op, rd, r1, r2, imm⟩) 69)).alloc (.cells (mk0 pc next cs).cells.toArray 120) = W := by rw [← hW, ← HMK.out]; rfl
  rw [hW2] at C0 C3 C5 C7 U
  clear hW hW2
  generalize w1.heap.size = b5 at *
  have s0 : W.cell? ⟨zz.heap.size, 0, none⟩ = some (.int .u32 (pc : Int)) := by rw [cells_of C0.out]; rfl
  have s2 : W.cell? ⟨zz.heap.size, 2, none⟩ = some (.int .u32 (a : Int)) := by rw [cells_of C0.out]; rfl
  have s3 : W.cell? ⟨zz.heap.size, 3, none⟩ = some (.int .u32 (b : Int)) := by rw [cells_of C0.out]; rfl
  have s6 : W.cell? ⟨zz.heap.size, 6, none⟩ = some (.int .u32 ((nth cs 2 : Nat) : Int)) := by rw [cells_of C0.out]; rfl
  have i0 : W.cell? ⟨b5, 0, none⟩ = some (.int .i64 (op : Int)) := by rw [cells_of C5.out]; rfl
  clear HSE HMK HCS
  by_cases h47 : op = 47
  · subst h47
    go_wp2_with (first
      | go_skip
      | ((with_reducible refine at_op 37 ?_); refine L_load 115 (.tmp 2) rfl (by kernel_rfl) _ _ rfl (seenC pc w a b cs).toArray (row_range C0.out) Tryz.underlying115 rfl 9 info_seen rfl ?_))
    refine (trap_calls pc w a b 11 0 cs _ hp (by decide) h5).mono ?_
    rintro e z1 ⟨rfl, rfl⟩
    generalize hMM : trapP pc cs 11 0 = MM
    have HMM := Lib.hid hMM
    clear hMM
    go_wp2_with (first
      | go_skip
      | ((with_reducible refine at_st 4 ?_); refine L_store_row 120 (.tmp 4) (.tmp 38) rfl (by kernel_rfl) (zz.heap.size + 1) 0 rfl zMade.cells 120 (heap_old (heap_old (heap_old C3.out _) _) _) MM.cells.toArray rfl 13 info_made rfl (by decide) (MadeV.one _) ?_))
    intro wZ bZ uZ zZ
    rw [spl_all (by rfl)] at bZ
    go_wp2_with (fail)
    refine bodyPost_ret (results_cell_row rfl _ _ (zz.heap.size + 1) 120 MM.cells.toArray _ _ rfl bZ Tryz.underlying120 rfl info_made) rfl ⟨by rw [HR.out, ← HMM.out, (show doI pc w a b cs word ⟨47, rd, r1, r2, imm⟩ = trapP pc cs 11 0 from rfl)], ?_⟩
    exact ((((U.out.alloc _).alloc _).alloc _)).then uZ (fun x hx hlt => by simp at hx; omega)
  by_cases h48 : op = 48
  · subst h48
    go_wp2_with (first
      | go_skip
      | ((with_reducible refine at_op 43 ?_); refine L_load 115 (.tmp 2) rfl (by kernel_rfl) _ _ rfl (seenC pc w a b cs).toArray (row_range C0.out) Tryz.underlying115 rfl 9 info_seen rfl ?_))
    refine (trap_calls pc w a b 3 0 cs _ hp (by decide) h5).mono ?_
    rintro e z1 ⟨rfl, rfl⟩
    generalize hMM : trapP pc cs 3 0 = MM
    have HMM := Lib.hid hMM
    clear hMM
    go_wp2_with (first
      | go_skip
      | ((with_reducible refine at_st 4 ?_); refine L_store_row 120 (.tmp 4) (.tmp 44) rfl (by kernel_rfl) (zz.heap.size + 1) 0 rfl zMade.cells 120 (heap_old (heap_old (heap_old C3.out _) _) _) MM.cells.toArray rfl 13 info_made rfl (by decide) (MadeV.one _) ?_))
    intro wZ bZ uZ zZ
    rw [spl_all (by rfl)] at bZ
    go_wp2_with (fail)
    refine bodyPost_ret (results_cell_row rfl _ _ (zz.heap.size + 1) 120 MM.cells.toArray _ _ rfl bZ Tryz.underlying120 rfl info_made) rfl ⟨by rw [HR.out, ← HMM.out, (show doI pc w a b cs word ⟨48, rd, r1, r2, imm⟩ = trapP pc cs 3 0 from rfl)], ?_⟩
    exact ((((U.out.alloc _).alloc _).alloc _)).then uZ (fun x hx hlt => by simp at hx; omega)
  by_cases h49 : op = 49
  · subst h49
    go_wp2_with (first
      | go_skip
      | ((with_reducible refine at_st 52 ?_); refine L_store_int 36 (.tmp 52) _ rfl (by kernel_rfl) (b5 + 1) 7 rfl (mk0 pc next cs).cells 120 C7.out .u32 ((nth cs 2 : Nat) : Int) rfl info_u1 (show 7 < 13 by decide) ?_))
    intro wA bA uA zA
    have K7 : Hid (wA.heap[b5 + 1]? = some (.cells (⟨⟨pc, 0, 0, false, 0, 0, 0⟩, nth cs 2, cs⟩ : MadeV).cells.toArray 120 (0, 0))) := Lib.hid bA
    have K3 := Lib.hid (uA.keep C3.out (by simp; omega))
    have V9 := Lib.hid (U.out.then uA (fun x hx hlt => by simp at hx; omega))
    clear bA uA zA
    generalize hMM : (⟨⟨pc, 0, 0, false, 0, 0, 0⟩, nth cs 2, cs⟩ : MadeV) = MM at K7
    have HMM := Lib.hid hMM
    clear hMM
    go_wp2_with (first
      | go_skip
      | ((with_reducible refine at_op 168 ?_); refine L_load 120 (.tmp 7) rfl (by kernel_rfl) _ _ rfl MM.cells.toArray (row_range K7.out) Tryz.underlying120 rfl 13 info_made rfl ?_)
      | ((with_reducible refine at_st 4 ?_); refine L_store_row 120 (.tmp 4) (.tmp 168) rfl (by kernel_rfl) (zz.heap.size + 1) 0 rfl zMade.cells 120 K3.out MM.cells.toArray rfl 13 info_made rfl (by decide) (MadeV.one _) ?_))
    intro wZ bZ uZ zZ
    rw [spl_all (by rfl)] at bZ
    go_wp2_with (fail)
    refine bodyPost_ret (results_cell_row rfl _ _ (zz.heap.size + 1) 120 MM.cells.toArray _ _ rfl bZ Tryz.underlying120 rfl info_made) rfl ⟨by rw [HR.out, ← HMM.out, (show doI pc w a b cs word ⟨49, rd, r1, r2, imm⟩ = ⟨⟨pc, 0, 0, false, 0, 0, 0⟩, nth cs 2, cs⟩ from rfl)], ?_⟩
    exact V9.out.then uZ (fun x hx hlt => by simp at hx; omega)
  have e47 : ((op : Int) == 47) = false := (cast_ne_b h47).1
  have e48 : ((op : Int) == 48) = false := (cast_ne_b h48).1
  have e49 : ((op : Int) == 49) = false := (cast_ne_b h49).1
  by_cases h50 : 50 ≤ op
  · have g50 : decide ((50 : Int) ≤ (op : Int)) = true := decide_eq_true (by omega)
    have hC := csr_calls pc w a b ⟨op, rd, r1, r2, imm⟩ cs
    rw [← HNX.out] at hC
    have HC := Lib.hid hC
    have HE := Lib.hid (show doI pc w a b cs word ⟨op, rd, r1, r2, imm⟩ = csrP pc w a cs ⟨op, rd, r1, r2, imm⟩ by unfold doI; dsimp only; rw [if_neg h0, if_neg h47, if_neg h48, if_neg h49, if_pos h50])
    clear hC
    go_wp2_with (first
      | go_skip
      | ((with_reducible refine at_op 57 ?_); refine L_load 115 (.tmp 2) rfl (by kernel_rfl) _ _ rfl (seenC pc w a b cs).toArray (row_range C0.out) Tryz.underlying115 rfl 9 info_seen rfl ?_)
      | ((with_reducible refine at_op 58 ?_); refine L_load 69 (.tmp 5) rfl (by kernel_rfl) _ _ rfl (InstV.arr ⟨op, rd, r1, r2, imm⟩) (row_range C5.out) Tryz.underlying69 rfl 5 info_inst rfl ?_)
      | ((with_reducible refine at_op 59 ?_); refine L_load 120 (.tmp 7) rfl (by kernel_rfl) _ _ rfl (mk0 pc next cs).cells.toArray (row_range C7.out) Tryz.underlying120 rfl 13 info_made rfl ?_))
    refine (HC.out _ hp ha hcs h5 ⟨h50, h55⟩ hr1 ⟨hi1, hi2⟩).mono ?_
    rintro e w9 ⟨rfl, u9⟩
    have K3 := Lib.hid (u9.keep C3.out (by simp))
    have V9 := Lib.hid (U.out.trans u9)
    clear u9
    generalize hMM : csrP pc w a cs ⟨op, rd, r1, r2, imm⟩ = MM
    have HMM := Lib.hid hMM
    clear hMM
    go_wp2_with (first
      | go_skip
      | ((with_reducible refine at_st 4 ?_); refine L_store_row 120 (.tmp 4) (.tmp 60) rfl (by kernel_rfl) (zz.heap.size + 1) 0 rfl zMade.cells 120 K3.out MM.cells.toArray rfl 13 info_made rfl (by decide) (MadeV.one _) ?_))
    intro wZ bZ uZ zZ
    rw [spl_all (by rfl)] at bZ
    go_wp2_with (fail)
    refine bodyPost_ret (results_cell_row rfl _ _ (zz.heap.size + 1) 120 MM.cells.toArray _ _ rfl bZ Tryz.underlying120 rfl info_made) rfl ⟨by rw [HR.out, ← HMM.out, HE.out], ?_⟩
    exact (V9.out).then uZ (fun x hx hlt => by simp at hx; omega)
  have g50 : decide ((50 : Int) ≤ (op : Int)) = false := decide_eq_false (by omega)
  by_cases h3 : op = 3
  · have HE := Lib.hid (show doI pc w a b cs word ⟨op, rd, r1, r2, imm⟩ = (if u32 ((pc : Int) + imm) % 4 ≠ 0 then trapP pc cs 0 (u32 ((pc : Int) + imm)) else ⟨writeR pc rd next, u32 ((pc : Int) + imm), cs⟩ : MadeV) by subst h3; rw [HNX.out]; rfl)
    have e3 : ((op : Int) == 3) = true := (cast_eq_b h3).1
    clear h3 h0 h47 h48 h49 h50
    go_wp2_with (first
      | go_skip
      | ((with_reducible refine at_op 65 ?_); refine L_load 115 (.tmp 2) rfl (by kernel_rfl) _ _ rfl (seenC pc w a b cs).toArray (row_range C0.out) Tryz.underlying115 rfl 9 info_seen rfl ?_)
      | ((with_reducible refine at_op 66 ?_); refine L_load 69 (.tmp 5) rfl (by kernel_rfl) _ _ rfl (InstV.arr ⟨op, rd, r1, r2, imm⟩) (row_range C5.out) Tryz.underlying69 rfl 5 info_inst rfl ?_)
      | ((with_reducible refine at_op 67 ?_); refine L_load 120 (.tmp 7) rfl (by kernel_rfl) _ _ rfl (mk0 pc next cs).cells.toArray (row_range C7.out) Tryz.underlying120 rfl 13 info_made rfl ?_))
    refine (jump_calls pc w a b (u32 ((pc : Int) + imm)) next ⟨op, rd, r1, r2, imm⟩ cs _ hp h5).mono ?_
    rintro e w9 ⟨rfl, u9⟩
    have K3 := Lib.hid (u9.keep C3.out (by simp))
    have V9 := Lib.hid (U.out.trans u9)
    clear u9
    generalize hMM : (if u32 ((pc : Int) + imm) % 4 ≠ 0 then trapP pc cs 0 (u32 ((pc : Int) + imm)) else ⟨writeR pc rd next, u32 ((pc : Int) + imm), cs⟩ : MadeV) = MM
    have HMM := Lib.hid hMM
    clear hMM
    go_wp2_with (first
      | go_skip
      | ((with_reducible refine at_st 4 ?_); refine L_store_row 120 (.tmp 4) (.tmp 72) rfl (by kernel_rfl) (zz.heap.size + 1) 0 rfl zMade.cells 120 K3.out MM.cells.toArray rfl 13 info_made rfl (by decide) (MadeV.one _) ?_))
    intro wZ bZ uZ zZ
    rw [spl_all (by rfl)] at bZ
    go_wp2_with (fail)
    refine bodyPost_ret (results_cell_row rfl _ _ (zz.heap.size + 1) 120 MM.cells.toArray _ _ rfl bZ Tryz.underlying120 rfl info_made) rfl ⟨by rw [HR.out, ← HMM.out, HE.out], ?_⟩
    exact (V9.out).then uZ (fun x hx hlt => by simp at hx; omega)
  by_cases h4 : op = 4
  · have e3 : ((op : Int) == 3) = false := (cast_ne_b h3).1
    have HE := Lib.hid (show doI pc w a b cs word ⟨op, rd, r1, r2, imm⟩ = (if u32 ((a : Int) + imm) / 2 * 2 % 4 ≠ 0 then trapP pc cs 0 (u32 ((a : Int) + imm) / 2 * 2) else ⟨writeR pc rd next, u32 ((a : Int) + imm) / 2 * 2, cs⟩ : MadeV) by subst h4; rw [HNX.out]; rfl)
    have e4 : ((op : Int) == 4) = true := (cast_eq_b h4).1
    have we := and_even (u32 ((a : Int) + imm)) (u32_lt _)
    generalize hev : u32 ((a : Int) + imm) / 2 * 2 = ev at HE we
    clear hev h3 h4 h0 h47 h48 h49 h50
    go_wp2_with (first
      | go_skip
      | ((with_reducible refine at_op 77 ?_); refine L_load 115 (.tmp 2) rfl (by kernel_rfl) _ _ rfl (seenC pc w a b cs).toArray (row_range C0.out) Tryz.underlying115 rfl 9 info_seen rfl ?_)
      | ((with_reducible refine at_op 78 ?_); refine L_load 69 (.tmp 5) rfl (by kernel_rfl) _ _ rfl (InstV.arr ⟨op, rd, r1, r2, imm⟩) (row_range C5.out) Tryz.underlying69 rfl 5 info_inst rfl ?_)
      | ((with_reducible refine at_op 79 ?_); refine L_load 120 (.tmp 7) rfl (by kernel_rfl) _ _ rfl (mk0 pc next cs).cells.toArray (row_range C7.out) Tryz.underlying120 rfl 13 info_made rfl ?_))
    refine (jump_calls pc w a b ev next ⟨op, rd, r1, r2, imm⟩ cs _ hp h5).mono ?_
    rintro e w9 ⟨rfl, u9⟩
    have K3 := Lib.hid (u9.keep C3.out (by simp))
    have V9 := Lib.hid (U.out.trans u9)
    clear u9
    generalize hMM : (if ev % 4 ≠ 0 then trapP pc cs 0 ev else ⟨writeR pc rd next, ev, cs⟩ : MadeV) = MM
    have HMM := Lib.hid hMM
    clear hMM
    go_wp2_with (first
      | go_skip
      | ((with_reducible refine at_st 4 ?_); refine L_store_row 120 (.tmp 4) (.tmp 85) rfl (by kernel_rfl) (zz.heap.size + 1) 0 rfl zMade.cells 120 K3.out MM.cells.toArray rfl 13 info_made rfl (by decide) (MadeV.one _) ?_))
    intro wZ bZ uZ zZ
    rw [spl_all (by rfl)] at bZ
    go_wp2_with (fail)
    refine bodyPost_ret (results_cell_row rfl _ _ (zz.heap.size + 1) 120 MM.cells.toArray _ _ rfl bZ Tryz.underlying120 rfl info_made) rfl ⟨by rw [HR.out, ← HMM.out, HE.out], ?_⟩
    exact (V9.out).then uZ (fun x hx hlt => by simp at hx; omega)
  have e3 : ((op : Int) == 3) = false := (cast_ne_b h3).1
  have e4 : ((op : Int) == 4) = false := (cast_ne_b h4).1
  have TK := Lib.hid (fun z => taken_calls op a b z h55 ha hb)
  cases ht : takenP op a b
  rotate_left
  · have hop : 5 ≤ op ∧ op ≤ 10 := by
      by_cases h : op < 5 ∨ 10 < op
      · rw [takenP_no op a b h] at ht; cases ht
      · omega
    have HE := Lib.hid (show doI pc w a b cs word ⟨op, rd, r1, r2, imm⟩ = (if u32 ((pc : Int) + imm) % 4 ≠ 0 then trapP pc cs 0 (u32 ((pc : Int) + imm)) else ⟨writeR pc rd next, u32 ((pc : Int) + imm), cs⟩ : MadeV) by unfold doI; dsimp only; rw [if_neg h0, if_neg h47, if_neg h48, if_neg h49, if_neg h50, if_neg h3, if_neg h4, if_pos ht, HNX.out]; rfl)
    rw [ht] at TK
    go_wp2_with (fail)
    refine (TK.out _).mono ?_
    rintro e z1 ⟨rfl, rfl⟩
    go_wp2_with (first
      | go_skip
      | ((with_reducible refine at_op 94 ?_); refine L_load 115 (.tmp 2) rfl (by kernel_rfl) _ _ rfl (seenC pc w a b cs).toArray (row_range C0.out) Tryz.underlying115 rfl 9 info_seen rfl ?_)
      | ((with_reducible refine at_op 95 ?_); refine L_load 69 (.tmp 5) rfl (by kernel_rfl) _ _ rfl (InstV.arr ⟨op, rd, r1, r2, imm⟩) (row_range C5.out) Tryz.underlying69 rfl 5 info_inst rfl ?_)
      | ((with_reducible refine at_op 96 ?_); refine L_load 120 (.tmp 7) rfl (by kernel_rfl) _ _ rfl (mk0 pc next cs).cells.toArray (row_range C7.out) Tryz.underlying120 rfl 13 info_made rfl ?_))
    refine (jump_calls pc w a b (u32 ((pc : Int) + imm)) next ⟨op, rd, r1, r2, imm⟩ cs _ hp h5).mono ?_
    rintro e w9 ⟨rfl, u9⟩
    have K3 := Lib.hid (u9.keep C3.out (by simp))
    have V9 := Lib.hid (U.out.trans u9)
    clear u9
    generalize hMM : (if u32 ((pc : Int) + imm) % 4 ≠ 0 then trapP pc cs 0 (u32 ((pc : Int) + imm)) else ⟨writeR pc rd next, u32 ((pc : Int) + imm), cs⟩ : MadeV) = MM
    have HMM := Lib.hid hMM
    clear hMM
    go_wp2_with (first
      | go_skip
      | ((with_reducible refine at_st 4 ?_); refine L_store_row 120 (.tmp 4) (.tmp 101) rfl (by kernel_rfl) (zz.heap.size + 1) 0 rfl zMade.cells 120 K3.out MM.cells.toArray rfl 13 info_made rfl (by decide) (MadeV.one _) ?_))
    intro wZ bZ uZ zZ
    rw [spl_all (by rfl)] at bZ
    go_wp2_with (fail)
    refine bodyPost_ret (results_cell_row rfl _ _ (zz.heap.size + 1) 120 MM.cells.toArray _ _ rfl bZ Tryz.underlying120 rfl info_made) rfl ⟨by rw [HR.out, ← HMM.out, HE.out], ?_⟩
    exact (V9.out).then uZ (fun x hx hlt => by simp at hx; omega)
  have hD : doI pc w a b cs word ⟨op, rd, r1, r2, imm⟩ = if 11 ≤ op ∧ op ≤ 18 then moveP pc a b cs ⟨op, rd, r1, r2, imm⟩ word else
      ⟨if op = 1 then writeR pc rd (u32 imm) else if op = 2 then writeR pc rd (u32 ((pc : Int) + imm))
      else if 19 ≤ op ∧ op ≤ 27 then writeR pc rd (aluP op a (u32 imm))
      else if 28 ≤ op ∧ op ≤ 45 then writeR pc rd (aluP op a b) else ⟨pc, 0, 0, false, 0, 0, 0⟩, next, cs⟩ := by
    unfold doI; dsimp only; rw [if_neg h0, if_neg h47, if_neg h48, if_neg h49, if_neg h50, if_neg h3, if_neg h4, if_neg (by rw [ht]; decide), HNX.out]
  rw [ht] at TK
  by_cases hm : 11 ≤ op ∧ op ≤ 18
  · rw [if_pos hm] at hD
    have HE := Lib.hid hD
    have g11 : decide ((11 : Int) ≤ (op : Int)) = true := decide_eq_true (by omega)
    have l18 : decide ((op : Int) ≤ 18) = true := decide_eq_true (by omega)
    have hC := move_calls pc w a b word ⟨op, rd, r1, r2, imm⟩ cs
    rw [← HNX.out] at hC
    have HC := Lib.hid hC
    clear hC hD
    go_wp2_with (fail)
    refine (TK.out _).mono ?_
    rintro e z1 ⟨rfl, rfl⟩
    go_wp2_with (first
      | go_skip
      | ((with_reducible refine at_op 111 ?_); refine L_load 115 (.tmp 2) rfl (by kernel_rfl) _ _ rfl (seenC pc w a b cs).toArray (row_range C0.out) Tryz.underlying115 rfl 9 info_seen rfl ?_)
      | ((with_reducible refine at_op 112 ?_); refine L_load 69 (.tmp 5) rfl (by kernel_rfl) _ _ rfl (InstV.arr ⟨op, rd, r1, r2, imm⟩) (row_range C5.out) Tryz.underlying69 rfl 5 info_inst rfl ?_)
      | ((with_reducible refine at_op 113 ?_); refine L_load 120 (.tmp 7) rfl (by kernel_rfl) _ _ rfl (mk0 pc next cs).cells.toArray (row_range C7.out) Tryz.underlying120 rfl 13 info_made rfl ?_))
    refine (HC.out _ hp hb hwd h5 hm).mono ?_
    rintro e w9 ⟨rfl, u9⟩
    have K3 := Lib.hid (u9.keep C3.out (by simp))
    have V9 := Lib.hid (U.out.trans u9)
    clear u9
    generalize hMM : moveP pc a b cs ⟨op, rd, r1, r2, imm⟩ word = MM
    have HMM := Lib.hid hMM
    clear hMM
    go_wp2_with (first
      | go_skip
      | ((with_reducible refine at_st 4 ?_); refine L_store_row 120 (.tmp 4) (.tmp 115) rfl (by kernel_rfl) (zz.heap.size + 1) 0 rfl zMade.cells 120 K3.out MM.cells.toArray rfl 13 info_made rfl (by decide) (MadeV.one _) ?_))
    intro wZ bZ uZ zZ
    rw [spl_all (by rfl)] at bZ
    go_wp2_with (fail)
    refine bodyPost_ret (results_cell_row rfl _ _ (zz.heap.size + 1) 120 MM.cells.toArray _ _ rfl bZ Tryz.underlying120 rfl info_made) rfl ⟨by rw [HR.out, ← HMM.out, HE.out], ?_⟩
    exact (V9.out).then uZ (fun x hx hlt => by simp at hx; omega)
  rw [if_neg hm] at hD
  have n11 : ¬ (11 ≤ op ∧ op ≤ 18) := hm
  by_cases h1 : op = 1
  · rw [if_pos h1] at hD
    have HE := Lib.hid hD
    have g11 : decide ((11 : Int) ≤ (op : Int)) = false := decide_eq_false (by omega)
    have e1 : ((op : Int) == 1) = true := (cast_eq_b h1).1
    clear hD h1 h0 h47 h48 h49 h50 h3 h4 hm n11
    go_wp2_with (fail)
    refine (TK.out _).mono ?_
    rintro e z1 ⟨rfl, rfl⟩
    go_wp2_with (first
      | go_skip
      | ((with_reducible refine at_op 120 ?_); refine L_load 69 (.tmp 5) rfl (by kernel_rfl) _ _ rfl (InstV.arr ⟨op, rd, r1, r2, imm⟩) (row_range C5.out) Tryz.underlying69 rfl 5 info_inst rfl ?_))
    refine (write_calls (b5 + 1) (u32 imm) ⟨op, rd, r1, r2, imm⟩ (mk0 pc next cs) _ C7.out).mono ?_
    rintro e w4 ⟨rfl, hb4, u4⟩
    have hM : (if rd = 0 then mk0 pc next cs else { mk0 pc next cs with r := { (mk0 pc next cs).r with val := (((u32 imm) : Nat) : Int), rd := (rd : Int) } }) = (⟨writeR pc rd (u32 imm), next, cs⟩ : MadeV) := by
      unfold writeR mk0; split <;> rfl
    rw [hM] at hb4
    have K7 := Lib.hid hb4
    have K3 := Lib.hid (u4.keep C3.out (by simp; omega))
    have V9 := Lib.hid (U.out.then u4 (fun x hx hlt => by simp at hx; omega))
    clear hb4 u4 hM
    generalize hMM : (⟨writeR pc rd (u32 imm), next, cs⟩ : MadeV) = MM at K7
    have HMM := Lib.hid hMM
    clear hMM
    go_wp2_with (first
      | go_skip
      | ((with_reducible refine at_op 168 ?_); refine L_load 120 (.tmp 7) rfl (by kernel_rfl) _ _ rfl MM.cells.toArray (row_range K7.out) Tryz.underlying120 rfl 13 info_made rfl ?_)
      | ((with_reducible refine at_st 4 ?_); refine L_store_row 120 (.tmp 4) (.tmp 168) rfl (by kernel_rfl) (zz.heap.size + 1) 0 rfl zMade.cells 120 K3.out MM.cells.toArray rfl 13 info_made rfl (by decide) (MadeV.one _) ?_))
    intro wZ bZ uZ zZ
    rw [spl_all (by rfl)] at bZ
    go_wp2_with (fail)
    refine bodyPost_ret (results_cell_row rfl _ _ (zz.heap.size + 1) 120 MM.cells.toArray _ _ rfl bZ Tryz.underlying120 rfl info_made) rfl ⟨by rw [HR.out, ← HMM.out, HE.out], ?_⟩
    exact V9.out.then uZ (fun x hx hlt => by simp at hx; omega)
  rw [if_neg h1] at hD
  have e1 : ((op : Int) == 1) = false := (cast_ne_b h1).1
  by_cases h2 : op = 2
  · rw [if_pos h2] at hD
    have HE := Lib.hid hD
    have g11 : decide ((11 : Int) ≤ (op : Int)) = false := decide_eq_false (by omega)
    have e2 : ((op : Int) == 2) = true := (cast_eq_b h2).1
    clear hD h1 h2 h0 h47 h48 h49 h50 h3 h4 hm n11
    go_wp2_with (fail)
    refine (TK.out _).mono ?_
    rintro e z1 ⟨rfl, rfl⟩
    go_wp2_with (first
      | go_skip
      | ((with_reducible refine at_op 127 ?_); refine L_load 69 (.tmp 5) rfl (by kernel_rfl) _ _ rfl (InstV.arr ⟨op, rd, r1, r2, imm⟩) (row_range C5.out) Tryz.underlying69 rfl 5 info_inst rfl ?_))
    refine (write_calls (b5 + 1) (u32 ((pc : Int) + imm)) ⟨op, rd, r1, r2, imm⟩ (mk0 pc next cs) _ C7.out).mono ?_
    rintro e w4 ⟨rfl, hb4, u4⟩
    have hM : (if rd = 0 then mk0 pc next cs else { mk0 pc next cs with r := { (mk0 pc next cs).r with val := (((u32 ((pc : Int) + imm)) : Nat) : Int), rd := (rd : Int) } }) = (⟨writeR pc rd (u32 ((pc : Int) + imm)), next, cs⟩ : MadeV) := by
      unfold writeR mk0; split <;> rfl
    rw [hM] at hb4
    have K7 := Lib.hid hb4
    have K3 := Lib.hid (u4.keep C3.out (by simp; omega))
    have V9 := Lib.hid (U.out.then u4 (fun x hx hlt => by simp at hx; omega))
    clear hb4 u4 hM
    generalize hMM : (⟨writeR pc rd (u32 ((pc : Int) + imm)), next, cs⟩ : MadeV) = MM at K7
    have HMM := Lib.hid hMM
    clear hMM
    go_wp2_with (first
      | go_skip
      | ((with_reducible refine at_op 168 ?_); refine L_load 120 (.tmp 7) rfl (by kernel_rfl) _ _ rfl MM.cells.toArray (row_range K7.out) Tryz.underlying120 rfl 13 info_made rfl ?_)
      | ((with_reducible refine at_st 4 ?_); refine L_store_row 120 (.tmp 4) (.tmp 168) rfl (by kernel_rfl) (zz.heap.size + 1) 0 rfl zMade.cells 120 K3.out MM.cells.toArray rfl 13 info_made rfl (by decide) (MadeV.one _) ?_))
    intro wZ bZ uZ zZ
    rw [spl_all (by rfl)] at bZ
    go_wp2_with (fail)
    refine bodyPost_ret (results_cell_row rfl _ _ (zz.heap.size + 1) 120 MM.cells.toArray _ _ rfl bZ Tryz.underlying120 rfl info_made) rfl ⟨by rw [HR.out, ← HMM.out, HE.out], ?_⟩
    exact V9.out.then uZ (fun x hx hlt => by simp at hx; omega)
  rw [if_neg h2] at hD
  have e2 : ((op : Int) == 2) = false := (cast_ne_b h2).1
  have R1 := Lib.hid (fun x : Near [b5 + 1] W => row_range (x.2.keep C5.out (by simp)))
  have n0 : ∀ x : Near [b5 + 1] W, x.1.cell? ⟨b5, 0, none⟩ = some (.int .i64 (op : Int)) := fun x => by rw [cells_of (x.2.keep C5.out (by simp))]; rfl
  have n2 : ∀ x : Near [b5 + 1] W, x.1.cell? ⟨zz.heap.size, 2, none⟩ = some (.int .u32 (a : Int)) := fun x => by rw [cells_of (x.2.keep C0.out (by simp; omega))]; rfl
  have n3 : ∀ x : Near [b5 + 1] W, x.1.cell? ⟨zz.heap.size, 3, none⟩ = some (.int .u32 (b : Int)) := fun x => by rw [cells_of (x.2.keep C0.out (by simp; omega))]; rfl
  by_cases hi : 19 ≤ op ∧ op ≤ 27
  · rw [if_pos hi] at hD
    have HE := Lib.hid hD
    have AL := Lib.hid (fun z => alu_calls op a (u32 imm) z ⟨hi.1, by omega⟩ ha (u32_lt _))
    have g11 : decide ((11 : Int) ≤ (op : Int)) = true := decide_eq_true (by omega)
    have l18 : decide ((op : Int) ≤ 18) = false := decide_eq_false (by omega)
    have g19 : decide ((19 : Int) ≤ (op : Int)) = true := decide_eq_true (by omega)
    have l27 : decide ((op : Int) ≤ 27) = true := decide_eq_true (by omega)
    obtain ⟨hi1', hi2'⟩ := hi
    have nb18 : ¬ op ≤ 18 := by omega
    clear hD h1 h2 h0 h47 h48 h49 h50 h3 h4 hm n11
    go_wp2_with (fail)
    refine (TK.out _).mono ?_
    rintro e z1 ⟨rfl, rfl⟩
    go_wp2_with (fail)
    refine wp_region_plan (fun z => ∃ x : Near [b5 + 1] z1, z = x.1) [([0, 1, 2, 3, 4, 5], 6), ([], 7)] [] (by kernel_rfl) (by kernel_rfl) (by kernel_rfl) (by kernel_rfl) (fun _ d _ _ _ h => by cases d <;> exact h) ⟨⟨(z1).drew, (Upd.refl _ _).drew⟩, rfl⟩ ?_
    refine plan_next ?_
    simp only [opsAt, List.map_cons, List.map_nil, List.getElem?_toArray, List.getElem?_cons_zero, List.getElem?_cons_succ, Option.getD_some]
    repeat (first
      | go_big_quiet_step (fail)
      | (refine Q_load 69 (.tmp 5) rfl (by kernel_rfl) _ _ rfl (InstV.arr ⟨op, rd, r1, r2, imm⟩) (by rintro _ ⟨y, rfl⟩; exact R1.out y) Tryz.underlying69 rfl 5 info_inst rfl ?_; go_simp))
    refine wpQuiet_nil ?_
    refine plan_one rfl ?_
    go_wp2_with fail
    refine (AL.out _).mono ?_
    rintro e z9 ⟨rfl, rfl⟩
    generalize aluP op a (u32 imm) = av at HE ⊢
    go_wp2_with fail
    refine plan_same ⟨⟨_, (Upd.refl _ _).drew⟩, rfl⟩ ?_
    refine plan_next ?_
    simp only [opsAt, List.map_cons, List.map_nil, List.getElem?_toArray, List.getElem?_cons_zero, List.getElem?_cons_succ, Option.getD_some]
    repeat (go_big_quiet_step (fail))
    refine wpQuiet_nil ?_
    refine plan_one rfl ?_
    go_wp2_with fail
    refine (write_calls (b5 + 1) av ⟨op, rd, r1, r2, imm⟩ (mk0 pc next cs) _ (show (World.drew z1).heap[b5 + 1]? = _ from C7.out)).mono ?_
    rintro e w4 ⟨rfl, hb4, u4⟩
    have hM : (if rd = 0 then mk0 pc next cs else { mk0 pc next cs with r := { (mk0 pc next cs).r with val := ((av : Nat) : Int), rd := (rd : Int) } }) = (⟨writeR pc rd av, next, cs⟩ : MadeV) := by
      unfold writeR mk0; split <;> rfl
    rw [hM] at hb4
    have K7 := Lib.hid hb4
    have K3 := Lib.hid (u4.keep (show (World.drew z1).heap[zz.heap.size + 1]? = _ from C3.out) (by simp; omega))
    have V4 := Lib.hid (((Upd.refl [b5 + 1] z1).drew).trans u4)
    have V9 := Lib.hid (U.out.then V4.out (fun x hx hlt => by simp at hx; omega))
    clear hb4 u4 hM n0 n2 n3 R1
    go_wp2_with fail
    refine plan_same ⟨⟨_, V4.out⟩, rfl⟩ ?_
    refine plan_last ?_
    simp only [opsAt, List.map_cons, List.map_nil, List.getElem?_toArray, List.getElem?_cons_zero, List.getElem?_cons_succ, Option.getD_some]
    repeat (go_big_quiet_step (fail))
    refine wpQuiet_nil ?_
    unfold planEnd
    generalize hMM : (⟨writeR pc rd av, next, cs⟩ : MadeV) = MM at K7
    have HMM := Lib.hid hMM
    clear hMM
    go_wp2_with (first
      | go_skip
      | ((with_reducible refine at_op 168 ?_); refine L_load 120 (.tmp 7) rfl (by kernel_rfl) _ _ rfl MM.cells.toArray (row_range K7.out) Tryz.underlying120 rfl 13 info_made rfl ?_)
      | ((with_reducible refine at_st 4 ?_); refine L_store_row 120 (.tmp 4) (.tmp 168) rfl (by kernel_rfl) (zz.heap.size + 1) 0 rfl zMade.cells 120 K3.out MM.cells.toArray rfl 13 info_made rfl (by decide) (MadeV.one _) ?_))
    intro wZ bZ uZ zZ
    rw [spl_all (by rfl)] at bZ
    go_wp2_with (fail)
    refine bodyPost_ret (results_cell_row rfl _ _ (zz.heap.size + 1) 120 MM.cells.toArray _ _ rfl bZ Tryz.underlying120 rfl info_made) rfl ⟨by rw [HR.out, ← HMM.out, HE.out], ?_⟩
    exact V9.out.then uZ (fun x hx hlt => by simp at hx; omega)
  rw [if_neg hi] at hD
  by_cases hr : 28 ≤ op ∧ op ≤ 45
  · rw [if_pos hr] at hD
    have HE := Lib.hid hD
    have AL := Lib.hid (fun z => alu_calls op a b z ⟨by omega, hr.2⟩ ha hb)
    have g11 : decide ((11 : Int) ≤ (op : Int)) = true := decide_eq_true (by omega)
    have l18 : decide ((op : Int) ≤ 18) = false := decide_eq_false (by omega)
    have g19 : decide ((19 : Int) ≤ (op : Int)) = true := decide_eq_true (by omega)
    have l27 : decide ((op : Int) ≤ 27) = false := decide_eq_false (by omega)
    have g28 : decide ((28 : Int) ≤ (op : Int)) = true := decide_eq_true (by omega)
    have l45 : decide ((op : Int) ≤ 45) = true := decide_eq_true (by omega)
    obtain ⟨hi1', hi2'⟩ := hr
    have nb18 : ¬ op ≤ 18 := by omega
    have nb27 : ¬ op ≤ 27 := by omega
    clear hD h1 h2 h0 h47 h48 h49 h50 h3 h4 hm n11 hi
    go_wp2_with (fail)
    refine (TK.out _).mono ?_
    rintro e z1 ⟨rfl, rfl⟩
    go_wp2_with (fail)
    refine wp_region_plan (fun z => ∃ x : Near [b5 + 1] z1, z = x.1) [([0, 1, 2, 3, 4, 5, 6], 7), ([], 8)] [] (by kernel_rfl) (by kernel_rfl) (by kernel_rfl) (by kernel_rfl) (fun _ d _ _ _ h => by cases d <;> exact h) ⟨⟨(z1).drew, (Upd.refl _ _).drew⟩, rfl⟩ ?_
    refine plan_next ?_
    simp only [opsAt, List.map_cons, List.map_nil, List.getElem?_toArray, List.getElem?_cons_zero, List.getElem?_cons_succ, Option.getD_some]
    repeat (first
      | go_big_quiet_step (fail)
      | (refine Q_load 69 (.tmp 5) rfl (by kernel_rfl) _ _ rfl (InstV.arr ⟨op, rd, r1, r2, imm⟩) (by rintro _ ⟨y, rfl⟩; exact R1.out y) Tryz.underlying69 rfl 5 info_inst rfl ?_; go_simp))
    refine wpQuiet_nil ?_
    refine plan_one rfl ?_
    go_wp2_with fail
    refine (AL.out _).mono ?_
    rintro e z9 ⟨rfl, rfl⟩
    generalize aluP op a b = av at HE ⊢
    go_wp2_with fail
    refine plan_same ⟨⟨_, (Upd.refl _ _).drew⟩, rfl⟩ ?_
    refine plan_next ?_
    simp only [opsAt, List.map_cons, List.map_nil, List.getElem?_toArray, List.getElem?_cons_zero, List.getElem?_cons_succ, Option.getD_some]
    repeat (go_big_quiet_step (fail))
    refine wpQuiet_nil ?_
    refine plan_one rfl ?_
    go_wp2_with fail
    refine (write_calls (b5 + 1) av ⟨op, rd, r1, r2, imm⟩ (mk0 pc next cs) _ (show (World.drew z1).heap[b5 + 1]? = _ from C7.out)).mono ?_
    rintro e w4 ⟨rfl, hb4, u4⟩
    have hM : (if rd = 0 then mk0 pc next cs else { mk0 pc next cs with r := { (mk0 pc next cs).r with val := ((av : Nat) : Int), rd := (rd : Int) } }) = (⟨writeR pc rd av, next, cs⟩ : MadeV) := by
      unfold writeR mk0; split <;> rfl
    rw [hM] at hb4
    have K7 := Lib.hid hb4
    have K3 := Lib.hid (u4.keep (show (World.drew z1).heap[zz.heap.size + 1]? = _ from C3.out) (by simp; omega))
    have V4 := Lib.hid (((Upd.refl [b5 + 1] z1).drew).trans u4)
    have V9 := Lib.hid (U.out.then V4.out (fun x hx hlt => by simp at hx; omega))
    clear hb4 u4 hM n0 n2 n3 R1
    go_wp2_with fail
    refine plan_same ⟨⟨_, V4.out⟩, rfl⟩ ?_
    refine plan_last ?_
    simp only [opsAt, List.map_cons, List.map_nil, List.getElem?_toArray, List.getElem?_cons_zero, List.getElem?_cons_succ, Option.getD_some]
    repeat (go_big_quiet_step (fail))
    refine wpQuiet_nil ?_
    unfold planEnd
    generalize hMM : (⟨writeR pc rd av, next, cs⟩ : MadeV) = MM at K7
    have HMM := Lib.hid hMM
    clear hMM
    go_wp2_with (first
      | go_skip
      | ((with_reducible refine at_op 168 ?_); refine L_load 120 (.tmp 7) rfl (by kernel_rfl) _ _ rfl MM.cells.toArray (row_range K7.out) Tryz.underlying120 rfl 13 info_made rfl ?_)
      | ((with_reducible refine at_st 4 ?_); refine L_store_row 120 (.tmp 4) (.tmp 168) rfl (by kernel_rfl) (zz.heap.size + 1) 0 rfl zMade.cells 120 K3.out MM.cells.toArray rfl 13 info_made rfl (by decide) (MadeV.one _) ?_))
    intro wZ bZ uZ zZ
    rw [spl_all (by rfl)] at bZ
    go_wp2_with (fail)
    refine bodyPost_ret (results_cell_row rfl _ _ (zz.heap.size + 1) 120 MM.cells.toArray _ _ rfl bZ Tryz.underlying120 rfl info_made) rfl ⟨by rw [HR.out, ← HMM.out, HE.out], ?_⟩
    exact V9.out.then uZ (fun x hx hlt => by simp at hx; omega)
  rw [if_neg hr] at hD
  have HE := Lib.hid hD
  clear n0 n2 n3 R1
  have K7 : Hid (W.heap[b5 + 1]? = some (.cells (⟨⟨pc, 0, 0, false, 0, 0, 0⟩, next, cs⟩ : MadeV).cells.toArray 120 (0, 0))) := C7
  have K3 := C3
  have V9 := U
  rcases (by omega : op ≤ 10 ∨ op = 46) with h10 | h46
  · have g11 : decide ((11 : Int) ≤ (op : Int)) = false := decide_eq_false (by omega)
    have g19 : decide ((19 : Int) ≤ (op : Int)) = false := decide_eq_false (by omega)
    have g28 : decide ((28 : Int) ≤ (op : Int)) = false := decide_eq_false (by omega)
    have nn : ¬ 11 ≤ op ∧ ¬ 19 ≤ op ∧ ¬ 28 ≤ op := by omega
    obtain ⟨nn1, nn2, nn3⟩ := nn
    clear hD h1 h2 h0 h47 h48 h49 h50 h3 h4 hm n11 hi hr
    go_wp2_with (fail)
    refine (TK.out _).mono ?_
    rintro e z1 ⟨rfl, rfl⟩
    generalize hMM : (⟨⟨pc, 0, 0, false, 0, 0, 0⟩, next, cs⟩ : MadeV) = MM at K7
    have HMM := Lib.hid hMM
    clear hMM
    go_wp2_with (first
      | go_skip
      | ((with_reducible refine at_op 168 ?_); refine L_load 120 (.tmp 7) rfl (by kernel_rfl) _ _ rfl MM.cells.toArray (row_range K7.out) Tryz.underlying120 rfl 13 info_made rfl ?_)
      | ((with_reducible refine at_st 4 ?_); refine L_store_row 120 (.tmp 4) (.tmp 168) rfl (by kernel_rfl) (zz.heap.size + 1) 0 rfl zMade.cells 120 K3.out MM.cells.toArray rfl 13 info_made rfl (by decide) (MadeV.one _) ?_))
    intro wZ bZ uZ zZ
    rw [spl_all (by rfl)] at bZ
    go_wp2_with (fail)
    refine bodyPost_ret (results_cell_row rfl _ _ (zz.heap.size + 1) 120 MM.cells.toArray _ _ rfl bZ Tryz.underlying120 rfl info_made) rfl ⟨by rw [HR.out, ← HMM.out, HE.out], ?_⟩
    exact V9.out.then uZ (fun x hx hlt => by simp at hx; omega)
  · have g11 : decide ((11 : Int) ≤ (op : Int)) = true := decide_eq_true (by omega)
    have l18 : decide ((op : Int) ≤ 18) = false := decide_eq_false (by omega)
    have g19 : decide ((19 : Int) ≤ (op : Int)) = true := decide_eq_true (by omega)
    have l27 : decide ((op : Int) ≤ 27) = false := decide_eq_false (by omega)
    have g28 : decide ((28 : Int) ≤ (op : Int)) = true := decide_eq_true (by omega)
    have l45 : decide ((op : Int) ≤ 45) = false := decide_eq_false (by omega)
    have nn : 11 ≤ op ∧ ¬ op ≤ 18 ∧ 19 ≤ op ∧ ¬ op ≤ 27 ∧ 28 ≤ op ∧ ¬ op ≤ 45 := by omega
    obtain ⟨nn1, nn2, nn3, nn4, nn5, nn6⟩ := nn
    clear hD h1 h2 h0 h47 h48 h49 h50 h3 h4 hm n11 hi hr h46
    go_wp2_with (fail)
    refine (TK.out _).mono ?_
    rintro e z1 ⟨rfl, rfl⟩
    generalize hMM : (⟨⟨pc, 0, 0, false, 0, 0, 0⟩, next, cs⟩ : MadeV) = MM at K7
    have HMM := Lib.hid hMM
    clear hMM
    go_wp2_with (first
      | go_skip
      | ((with_reducible refine at_op 168 ?_); refine L_load 120 (.tmp 7) rfl (by kernel_rfl) _ _ rfl MM.cells.toArray (row_range K7.out) Tryz.underlying120 rfl 13 info_made rfl ?_)
      | ((with_reducible refine at_st 4 ?_); refine L_store_row 120 (.tmp 4) (.tmp 168) rfl (by kernel_rfl) (zz.heap.size + 1) 0 rfl zMade.cells 120 K3.out MM.cells.toArray rfl 13 info_made rfl (by decide) (MadeV.one _) ?_))
    intro wZ bZ uZ zZ
    rw [spl_all (by rfl)] at bZ
    go_wp2_with (fail)
    refine bodyPost_ret (results_cell_row rfl _ _ (zz.heap.size + 1) 120 MM.cells.toArray _ _ rfl bZ Tryz.underlying120 rfl info_made) rfl ⟨by rw [HR.out, ← HMM.out, HE.out], ?_⟩
    exact V9.out.then uZ (fun x hx hlt => by simp at hx; omega)
end Go.Proofs.YtmdjhahafjlebaaGreatDoor
