/- A plain machine: what the next instruction makes. -/
import Derived.Test.YtggjmdgonjhioaaGreatQZ29
namespace Go.Proofs.YtggjmdgonjhioaaGreat
open Go.RowKit Go.Dio
set_option linter.unusedSimpArgs false
set_option linter.unusedVariables false

theorem nthB2 {l : List Nat} {B : Nat} (h : ∀ x ∈ l, x < B) (hB : 0 < B) (k : Nat) : nth l k < B := by
  by_cases hk : k < l.length
  · rw [nth_eq l k hk]; exact h _ (List.getElem_mem hk)
  · rw [show nth l k = 0 by simp [nth, show l.length ≤ k by omega]]; exact hB
theorem access_in {op addr : Nat} (h : (accessP op addr).2 = false) (h1 : 11 ≤ op) (h2 : op ≤ 15) : addr < 4096 := by
  have hf := access_ok h ⟨h1, by omega⟩
  unfold accessP at h
  have hs : sizeP op ≠ 0 := by
    rcases (by omega : op = 11 ∨ op = 12 ∨ op = 13 ∨ op = 14 ∨ op = 15) with rfl | rfl | rfl | rfl | rfl <;> decide
  rw [if_neg hs, if_neg (by rw [hf]; decide)] at h
  by_cases hc : addr < 4096 ∨ (op = 18 ∧ devP addr = true)
  · omega
  · rw [if_neg hc] at h; cases h
/-- The worlds near one in which a cell holds a number. -/
def CelN (b : Nat) (W : World) : Type := { w' : World // Upd [b] W w' ∧ w'.cell? ⟨b, 1, none⟩ = W.cell? ⟨b, 1, none⟩ }
instance (b : Nat) (W : World) : Nonempty (CelN b W) := ⟨⟨W, Upd.refl _ _, rfl⟩⟩
theorem csr_range {mb gb base : Nat} {tv : Value} {s : MSt} {w : World} (h : MachAt mb gb base tv s w) (ok : MOk s) : w.rangeAt mb 33 (csV s.csrs) := fun j v hv => by
  rw [h.cAt (33 + j)]
  have hj : j < 5 := (List.getElem?_eq_some_iff.1 hv).1
  rw [mc_csr s gb tv j ok.regs ok.csrs hj]
  match j, hv with
  | 0, hv => exact hv
  | 1, hv => exact hv
  | 2, hv => exact hv
  | 3, hv => exact hv
  | 4, hv => exact hv
set_option maxRecDepth 20000 in
set_option maxHeartbeats 8000000 in
theorem made_calls (mb gb base : Nat) (tv : Value) (s : MSt) (zz : World) (M : MachAt mb gb base tv s zz) (ok : MOk s) :
    Calls Tryz.prog 28 #[.pointer (some ⟨mb, 0, none⟩)] zz fun e z' => e = .returned (.agg (madeP s).cells.toArray) ∧ Upd [] zz z' := by
  have hlt := lt_of_block M.cell
  have hgl := lt_of_block M.mem
  have hown : ∀ g, tv.ownBlock = some g → g < zz.heap.size := fun g hg => (World.ownsRow.lt M.own g hg).2
  go_enter Tryz.func28, Tryz.ntmps28
  go_wp2_with (fail)
  have MW := Lib.hid (M.upd0 ((Upd.refl [] zz).alloc (.cells zMade.cells.toArray 67)))
  have R0 := Lib.hid (hl1 zz (.cells zMade.cells.toArray 67))
  have UW := Lib.hid ((Upd.refl [] zz).alloc (.cells zMade.cells.toArray 67))
  have hs : (zz.alloc (.cells zMade.cells.toArray 67)).heap.size = zz.heap.size + 1 := by simp
  generalize hW : World.alloc zz _ = W
  have hW2 : zz.alloc (.cells zMade.cells.toArray 67) = W := hW
  rw [hW2] at MW R0 UW hs
  clear hW hW2 M
  have n0 : ∀ x : Near [] W, x.1.cell? ⟨mb, 0, none⟩ = some (.int .u32 (s.pc : Int)) := fun x => by rw [(MW.out.upd0 x.2).cAt 0]; rfl
  have R1 := Lib.hid (fun x : Near [] W => csr_range (MW.out.upd0 x.2) ok)
  refine wp_region_plan (fun z => ∃ x : Near [] W, z = x.1) [([0, 1, 2, 3, 4, 5, 6, 7, 8, 9, 10], 11), ([], 12)] [] (by kernel_rfl) (by kernel_rfl) (by kernel_rfl) (by kernel_rfl) (fun _ d _ _ _ h => by cases d <;> exact h) ⟨⟨(W).drew, (Upd.refl _ _).drew⟩, rfl⟩ ?_
  refine plan_next ?_
  simp only [opsAt, List.map_cons, List.map_nil, List.getElem?_toArray, List.getElem?_cons_zero, List.getElem?_cons_succ, Option.getD_some]
  repeat (first
    | go_big_quiet_step (fail)
    | (refine Q_load 58 (.tmp 17) rfl (by kernel_rfl) _ _ rfl #[.int .u32 ((nth s.csrs 0 : Nat) : Int), .int .u32 ((nth s.csrs 1 : Nat) : Int), .int .u32 ((nth s.csrs 2 : Nat) : Int), .int .u32 ((nth s.csrs 3 : Nat) : Int), .int .u32 ((nth s.csrs 4 : Nat) : Int)] (by rintro _ ⟨y, rfl⟩; exact R1.out y) Tryz.underlying58 rfl 5 info_c5 rfl ?_; go_simp))
  refine wpQuiet_nil ?_
  refine plan_one rfl ?_
  go_wp2_with fail
  have hsz : W.heap.size = W.heap.size := rfl
  refine plan_same ⟨⟨_, ((Upd.refl [] W).alloc _).drew⟩, rfl⟩ ?_
  refine plan_next ?_
  simp only [opsAt, List.map_cons, List.map_nil, List.getElem?_toArray, List.getElem?_cons_zero, List.getElem?_cons_succ, Option.getD_some]
  repeat (go_big_quiet_step (fail))
  refine wpQuiet_nil ?_
  refine plan_one rfl ?_
  go_wp2_with fail
  refine plan_same ⟨⟨_, ((Upd.refl [] W).alloc _).drew⟩, rfl⟩ ?_
  refine plan_last ?_
  simp only [opsAt, List.map_cons, List.map_nil, List.getElem?_toArray, List.getElem?_cons_zero, List.getElem?_cons_succ, Option.getD_some]
  repeat (go_big_quiet_step (fail))
  refine wpQuiet_nil ?_
  unfold planEnd
  have HS := Lib.hid (hl1 W (.cells (seenC s.pc 0 0 0 s.csrs).toArray 85))
  rw [hs] at HS
  have VX := Lib.hid (((Upd.refl [] W).alloc (.cells (seenC s.pc 0 0 0 s.csrs).toArray 85)).drew)
  generalize hX : World.drew (World.alloc W _) = X
  have hX2 : (W.alloc (.cells (seenC s.pc 0 0 0 s.csrs).toArray 85)).drew = X := hX
  have HSX : Hid (X.heap[zz.heap.size + 1]? = some (.cells (seenC s.pc 0 0 0 s.csrs).toArray 85 (0, 0))) := Lib.hid (by rw [← hX2]; exact HS.out)
  rw [hX2] at VX
  have MX := Lib.hid (MW.out.upd0 VX.out)
  have RX := Lib.hid (VX.out.keep R0.out (by simp))
  have UX := Lib.hid (UW.out.trans VX.out)
  clear hX hX2 HS VX MW R0 UW n0 R1 hs hsz
  have p0 : X.cell? ⟨zz.heap.size + 1, 0, none⟩ = some (.int .u32 (s.pc : Int)) := by rw [cells_of HSX.out]; rfl
  have F := Lib.hid (fun z => fetch_calls s.pc z ok.pc)
  cases hf : (fetchP s.pc).2
  · rw [hf] at F
    go_wp2_with (fail)
    refine (F.out _).mono ?_
    rintro e z1 ⟨rfl, rfl⟩
    go_wp2_with (fail)
    have hfp : s.pc % 4 = 0 ∧ s.pc < 4096 := by
      unfold fetchP at hf
      by_cases h1 : s.pc % 4 ≠ 0
      · rw [if_pos h1] at hf; cases hf
      · rw [if_neg h1] at hf
        by_cases h2 : 4096 ≤ s.pc
        · rw [if_pos h2] at hf; cases hf
        · omega
    have HE := Lib.hid (show madeP s = doP s.pc (nth s.mem (s.pc / 4)) (nth s.regs (fb (nth s.mem (s.pc / 4)) 15 5)) (nth s.regs (fb (nth s.mem (s.pc / 4)) 20 5)) s.csrs (nth s.mem (u32 (((nth s.regs (fb (nth s.mem (s.pc / 4)) 15 5) : Nat) : Int) + (decodeP (nth s.mem (s.pc / 4))).imm) / 4)) by unfold madeP; rw [if_neg (by rw [hf]; decide)])
    clear hf F p0
    have q1 : (s.pc : Int) / 4 = ((s.pc / 4 : Nat) : Int) := by omega
    have q2 : (s.pc : Int).tdiv 4 = ((s.pc / 4 : Nat) : Int) := by rw [Int.tdiv_eq_ediv_of_nonneg (by omega)]; omega
    have hq : s.pc / 4 < 1024 := by omega
    have b1 : decide (((s.pc / 4 : Nat) : Int) < 1024) = true := decide_eq_true (by omega)
    have n0 : ∀ x : Near [] z1, x.1.cell? ⟨zz.heap.size + 1, 0, none⟩ = some (.int .u32 (s.pc : Int)) := fun x => by rw [cells_of (x.2.keep HSX.out (by simp))]; rfl
    have n38 : ∀ x : Near [] z1, x.1.cell? ⟨mb, 38, none⟩ = some (.slice (some ⟨gb, 0, none⟩) 1024 1024) := fun x => by rw [(MX.out.upd0 x.2).cAt 38, mc_tail s gb tv 0 ok.regs ok.csrs]; rfl
    have nw : ∀ x : Near [] z1, x.1.cell? ⟨gb, s.pc / 4, none⟩ = some (.int .u32 ((nth s.mem (s.pc / 4) : Nat) : Int)) := fun x => by
      rw [cells_of (x.2.keep MX.out.mem (by simp))]; exact nums_nth .u32 s.mem _ (by rw [ok.mem]; exact hq)
    have hwl : nth s.mem (s.pc / 4) < 2 ^ 32 := nthB2 ok.mlt (by decide) _
    generalize nth s.mem (s.pc / 4) = w at *
    generalize s.pc / 4 = q at *
    refine wp_region_segs [([], [0, 1, 2, 3, 4, 5, 6, 7, 8, 9, 10]), ([([], 11)], [])] (by kernel_rfl) (by kernel_rfl) (by kernel_rfl) (by kernel_rfl) (fun _ d _ _ _ h => by cases d <;> exact h) ?_
    refine segs_part (fun z => ∃ x : Near [] z1, z = x.1) ⟨⟨_, (Upd.refl _ _).drew⟩, rfl⟩ ?_
    refine part_last ?_
    simp only [opsAt, List.map_cons, List.map_nil, List.getElem?_toArray, List.getElem?_cons_zero, List.getElem?_cons_succ, Option.getD_some]
    repeat (go_big_quiet_step (fail))
    refine wpQuiet_nil ?_
    unfold partEnd
    clear n0 n38 nw
    refine segs_part (fun z => ∃ x : Near [zz.heap.size + 1] z1, z = x.1) ⟨⟨_, (Upd.refl _ _).drew⟩, rfl⟩ ?_
    refine part_next ?_
    simp only [opsAt, List.map_cons, List.map_nil, List.getElem?_toArray, List.getElem?_cons_zero, List.getElem?_cons_succ, Option.getD_some]
    repeat (go_big_quiet_step (fail))
    refine wpQuiet_nil ?_
    refine part_one rfl ?_
    refine L_store_int 36 (.tmp 42) (.tmp 41) rfl (by kernel_rfl) (zz.heap.size + 1) 1 rfl (seenC s.pc 0 0 0 s.csrs) 85 (show (World.drew z1).heap[zz.heap.size + 1]? = _ from HSX.out) .u32 (w : Int) rfl info_u1 (show 1 < 9 by decide) ?_
    intro w2 b2 u2 z2
    have HS2 : Hid (w2.heap[zz.heap.size + 1]? = some (.cells (seenC s.pc w 0 0 s.csrs).toArray 85 (0, 0))) := Lib.hid b2
    have V2 := Lib.hid (((Upd.refl [zz.heap.size + 1] z1).drew).trans u2)
    have M2 := Lib.hid (MX.out.upd V2.out (by simp; omega) (by simp; omega) (fun g hg hm => by simp at hm; have := hown g hg; omega))
    refine part_same ⟨⟨_, V2.out⟩, rfl⟩ ?_
    refine part_last ?_
    simp only [opsAt, List.map_cons, List.map_nil, List.getElem?_toArray, List.getElem?_cons_zero, List.getElem?_cons_succ, Option.getD_some]
    repeat (go_big_quiet_step (fail))
    refine wpQuiet_nil ?_
    unfold partEnd
    refine segs_end ?_
    have U2 := Lib.hid (UX.out.then V2.out (fun x hx hlt => by simp at hx; omega))
    have R2 := Lib.hid (V2.out.keep RX.out (by simp))
    clear b2 u2 z2 V2 HSX MX RX UX
    have hfa := fb5 w 15
    have hfb := fb5 w 20
    have BA := Lib.hid (fun z => fBits_calls w 15 5 z hwl (by decide) (by decide) (by decide))
    have BB := Lib.hid (fun z => fBits_calls w 20 5 z hwl (by decide) (by decide) (by decide))
    have hal : nth s.regs (fb w 15 5) < 2 ^ 32 := nthB2 ok.rlt (by decide) _
    have hbl : nth s.regs (fb w 20 5) < 2 ^ 32 := nthB2 ok.rlt (by decide) _
    have c1 : w2.cell? ⟨zz.heap.size + 1, 1, none⟩ = some (.int .u32 (w : Int)) := by rw [cells_of HS2.out]; rfl
    have n1 : ∀ x : CelN (zz.heap.size + 1) w2, x.1.cell? ⟨zz.heap.size + 1, 1, none⟩ = some (.int .u32 (w : Int)) := fun x => x.2.2.trans c1
    have na : ∀ x : CelN (zz.heap.size + 1) w2, x.1.cell? ⟨mb, 1 + fb w 15 5, none⟩ = some (.int .u32 ((nth s.regs (fb w 15 5) : Nat) : Int)) := fun x => by
      rw [(M2.out.upd x.2.1 (by simp; omega) (by simp; omega) (fun g hg hm => by simp at hm; have := hown g hg; omega)).cAt, mc_reg s gb tv _ ok.regs hfa]
    have nb : ∀ x : CelN (zz.heap.size + 1) w2, x.1.cell? ⟨mb, 1 + fb w 20 5, none⟩ = some (.int .u32 ((nth s.regs (fb w 20 5) : Nat) : Int)) := fun x => by
      rw [(M2.out.upd x.2.1 (by simp; omega) (by simp; omega) (fun g hg hm => by simp at hm; have := hown g hg; omega)).cAt, mc_reg s gb tv _ ok.regs hfb]
    obtain ⟨av, hav⟩ : ∃ av, av = nth s.regs (fb w 15 5) := ⟨_, rfl⟩
    obtain ⟨bv, hbv⟩ : ∃ bv, bv = nth s.regs (fb w 20 5) := ⟨_, rfl⟩
    rw [← hav] at hal na HE
    rw [← hbv] at hbl nb HE
    clear hav hbv
    generalize fb w 15 5 = fa at *
    generalize fb w 20 5 = fbb at *
    have b2 : decide ((fa : Int) < 32) = true := decide_eq_true (by omega)
    have b3 : decide ((fbb : Int) < 32) = true := decide_eq_true (by omega)
    go_wp2_with (fail)
    refine wp_region_plan (fun z => ∃ x : CelN (zz.heap.size + 1) w2, z = x.1) [([0, 1, 2, 4, 5, 6, 9, 10, 11, 13, 14, 15], 3), ([7, 8, 18], 12), ([16, 17], 19), ([20], 21)] [] (by kernel_rfl) (by kernel_rfl) (by kernel_rfl) (by kernel_rfl) (fun _ d _ _ _ h => by cases d <;> exact h) ⟨⟨w2.drew, (Upd.refl _ _).drew, rfl⟩, rfl⟩ ?_
    refine plan_next ?_
    simp only [opsAt, List.map_cons, List.map_nil, List.getElem?_toArray, List.getElem?_cons_zero, List.getElem?_cons_succ, Option.getD_some]
    go_simp
    repeat (go_big_quiet_step (fail))
    refine wpQuiet_nil ?_
    refine plan_one rfl ?_
    go_wp2_with fail
    refine (BA.out _).mono ?_
    rintro e z3 ⟨rfl, k3, rfl⟩
    go_wp2_with fail
    refine plan_same ⟨⟨_, Upd.drewN _ (Upd.refl _ _), rfl⟩, rfl⟩ ?_
    refine plan_next ?_
    simp only [opsAt, List.map_cons, List.map_nil, List.getElem?_toArray, List.getElem?_cons_zero, List.getElem?_cons_succ, Option.getD_some]
    repeat (go_big_quiet_step (fail))
    refine wpQuiet_nil ?_
    refine plan_one rfl ?_
    go_wp2_with fail
    refine (BB.out _).mono ?_
    rintro e z4 ⟨rfl, k4, rfl⟩
    go_wp2_with fail
    refine plan_same ⟨⟨_, Upd.drewN _ (Upd.refl _ _), rfl⟩, rfl⟩ ?_
    refine plan_next ?_
    simp only [opsAt, List.map_cons, List.map_nil, List.getElem?_toArray, List.getElem?_cons_zero, List.getElem?_cons_succ, Option.getD_some]
    repeat (go_big_quiet_step (fail))
    refine wpQuiet_nil ?_
    refine plan_one rfl ?_
    refine L_store_int 36 (.tmp 61) (.tmp 51) rfl (by kernel_rfl) (zz.heap.size + 1) 2 rfl (seenC s.pc w 0 0 s.csrs) 85 (show (World.drewN w2 _).heap[zz.heap.size + 1]? = _ from HS2.out) .u32 (av : Int) rfl info_u1 (show 2 < 9 by decide) ?_
    intro w5 b5 u5 z5
    have HS5 : Hid (w5.heap[zz.heap.size + 1]? = some (.cells (seenC s.pc w av 0 s.csrs).toArray 85 (0, 0))) := Lib.hid b5
    have V5 := Lib.hid ((Upd.drewN _ (Upd.refl [zz.heap.size + 1] w2)).trans u5)
    have e5 : w5.cell? ⟨zz.heap.size + 1, 1, none⟩ = w2.cell? ⟨zz.heap.size + 1, 1, none⟩ := by rw [c1, cells_of HS5.out]; rfl
    clear b5 u5 z5
    refine plan_same ⟨⟨_, V5.out, e5⟩, rfl⟩ ?_
    refine plan_next ?_
    simp only [opsAt, List.map_cons, List.map_nil, List.getElem?_toArray, List.getElem?_cons_zero, List.getElem?_cons_succ, Option.getD_some]
    go_simp
    repeat (go_big_quiet_step (fail))
    refine wpQuiet_nil ?_
    refine plan_one rfl ?_
    refine L_store_int 36 (.tmp 62) (.tmp 60) rfl (by kernel_rfl) (zz.heap.size + 1) 3 rfl (seenC s.pc w av 0 s.csrs) 85 HS5.out .u32 (bv : Int) rfl info_u1 (show 3 < 9 by decide) ?_
    intro w6 b6 u6 z6
    have HS6 : Hid (w6.heap[zz.heap.size + 1]? = some (.cells (seenC s.pc w av bv s.csrs).toArray 85 (0, 0))) := Lib.hid b6
    have V6 := Lib.hid (V5.out.trans u6)
    have e6 : w6.cell? ⟨zz.heap.size + 1, 1, none⟩ = w2.cell? ⟨zz.heap.size + 1, 1, none⟩ := by rw [c1, cells_of HS6.out]; rfl
    clear b6 u6 z6
    refine plan_same ⟨⟨_, V6.out, e6⟩, rfl⟩ ?_
    refine plan_last ?_
    simp only [opsAt, List.map_cons, List.map_nil, List.getElem?_toArray, List.getElem?_cons_zero, List.getElem?_cons_succ, Option.getD_some]
    go_simp
    refine wpQuiet_nil ?_
    unfold planEnd
    have M6 := Lib.hid (M2.out.upd V6.out (by simp; omega) (by simp; omega) (fun g hg hm => by simp at hm; have := hown g hg; omega))
    have U6 := Lib.hid (U2.out.then V6.out (fun x hx hlt => by simp at hx; omega))
    have R6 := Lib.hid (V6.out.keep R2.out (by simp))
    clear M2 U2 R2 V6 V5 HS2 HS5 e5 e6 n1 na nb c1 BA BB
    have p1 : w6.cell? ⟨zz.heap.size + 1, 1, none⟩ = some (.int .u32 (w : Int)) := by rw [cells_of HS6.out]; rfl
    have p2 : w6.cell? ⟨zz.heap.size + 1, 2, none⟩ = some (.int .u32 (av : Int)) := by rw [cells_of HS6.out]; rfl
    go_wp2_with (fail)
    refine (loads_calls w av hwl hal _).mono ?_
    rintro e w7 ⟨x, d, rfl, hL, u7⟩
    have M7 := Lib.hid (M6.out.upd0 u7)
    have U7 := Lib.hid (U6.out.trans u7)
    have R7 := Lib.hid (u7.keep R6.out (by simp))
    have HS7 := Lib.hid (u7.keep HS6.out (by simp))
    clear p1 p2 M6 U6 R6 HS6 u7
    have hclt : ∀ k, nth s.csrs k < 2 ^ 32 := fun k => nthB2 ok.clt (by decide) k
    cases d
    · have HE2 := Lib.hid (show madeP s = doP s.pc w av bv s.csrs 0 by rw [HE.out, doP_eq, doP_eq]; exact doI_word _ _ _ _ _ _ _ _ x hL)
      have DO := Lib.hid (fun z => do_calls s.pc w av bv 0 s.csrs z ok.pc hwl hal hbl (by decide) hclt ok.csrs)
      generalize doP s.pc w av bv s.csrs 0 = MM at HE2 DO
      go_wp2_with (first
        | go_skip
        | ((with_reducible refine at_op 81 ?_); refine L_load 85 (.tmp 3) rfl (by kernel_rfl) _ _ rfl (seenC s.pc w av bv s.csrs).toArray (row_range HS7.out) Tryz.underlying85 rfl 9 info_seen rfl ?_))
      refine (DO.out _).mono ?_
      rintro e w8 ⟨rfl, u8⟩
      have R8 := Lib.hid (u8.keep R7.out (by simp))
      have U8 := Lib.hid (U7.out.trans u8)
      clear u8
      go_wp2_with (first
        | go_skip
        | ((with_reducible refine at_st 2 ?_); refine L_store_row 67 (.tmp 2) (.tmp 83) rfl (by kernel_rfl) zz.heap.size 0 rfl zMade.cells 67 R8.out MM.cells.toArray rfl 13 info_made rfl (by decide) (MadeV.one _) ?_))
      intro wZ bZ uZ zZ
      rw [spl_all (by rfl)] at bZ
      go_wp2_with (fail)
      refine bodyPost_ret (results_cell_row rfl _ _ zz.heap.size 67 MM.cells.toArray _ _ rfl bZ Tryz.underlying67 rfl info_made) rfl ⟨by rw [HE2.out], ?_⟩
      exact U8.out.then uZ (fun x hx hlt => by simp at hx; omega)
    · obtain ⟨hx, ho1, ho2, hac⟩ := hL.1 rfl
      have hin := access_in hac ho1 ho2
      have hxq : x / 4 = u32 ((av : Int) + (decodeP w).imm) / 4 := by rw [hx, low2]; omega
      rw [← hxq] at HE
      have hx4 : x / 4 < 1024 := by rw [hxq]; omega
      have q3 : (x : Int) / 4 = ((x / 4 : Nat) : Int) := by omega
      have q4 : (x : Int).tdiv 4 = ((x / 4 : Nat) : Int) := by rw [Int.tdiv_eq_ediv_of_nonneg (by omega)]; omega
      have m38 : w7.cell? ⟨mb, 38, none⟩ = some (.slice (some ⟨gb, 0, none⟩) 1024 1024) := by rw [M7.out.cAt 38, mc_tail s gb tv 0 ok.regs ok.csrs]; rfl
      have mw : w7.cell? ⟨gb, x / 4, none⟩ = some (.int .u32 ((nth s.mem (x / 4) : Nat) : Int)) := by
        rw [cells_of M7.out.mem]; exact nums_nth .u32 s.mem _ (by rw [ok.mem]; exact hx4)
      have hvl : nth s.mem (x / 4) < 2 ^ 32 := nthB2 ok.mlt (by decide) _
      have b9 : decide (((x / 4 : Nat) : Int) < 1024) = true := decide_eq_true (by omega)
      clear hL hx hac hin hxq
      generalize nth s.mem (x / 4) = v at *
      generalize x / 4 = q5 at *
      have HE2 := Lib.hid HE.out
      have DO := Lib.hid (fun z => do_calls s.pc w av bv v s.csrs z ok.pc hwl hal hbl hvl hclt ok.csrs)
      generalize doP s.pc w av bv s.csrs v = MM at HE2 DO
      go_wp2_with (first
        | go_skip
        | ((with_reducible refine at_op 81 ?_); refine L_load 85 (.tmp 3) rfl (by kernel_rfl) _ _ rfl (seenC s.pc w av bv s.csrs).toArray (row_range HS7.out) Tryz.underlying85 rfl 9 info_seen rfl ?_))
      refine (DO.out _).mono ?_
      rintro e w8 ⟨rfl, u8⟩
      have R8 := Lib.hid (u8.keep R7.out (by simp))
      have U8 := Lib.hid (U7.out.trans u8)
      clear u8
      go_wp2_with (first
        | go_skip
        | ((with_reducible refine at_st 2 ?_); refine L_store_row 67 (.tmp 2) (.tmp 83) rfl (by kernel_rfl) zz.heap.size 0 rfl zMade.cells 67 R8.out MM.cells.toArray rfl 13 info_made rfl (by decide) (MadeV.one _) ?_))
      intro wZ bZ uZ zZ
      rw [spl_all (by rfl)] at bZ
      go_wp2_with (fail)
      refine bodyPost_ret (results_cell_row rfl _ _ zz.heap.size 67 MM.cells.toArray _ _ rfl bZ Tryz.underlying67 rfl info_made) rfl ⟨by rw [HE2.out], ?_⟩
      exact U8.out.then uZ (fun x hx hlt => by simp at hx; omega)
  · rw [hf] at F
    have HE := Lib.hid (show madeP s = trapP s.pc s.csrs (fetchP s.pc).1 s.pc by unfold madeP; rw [if_pos hf])
    have hc32 : (fetchP s.pc).1 < 2 ^ 32 := by unfold fetchP; split; decide; split <;> decide
    generalize (fetchP s.pc).1 = cause at F HE hc32
    clear hf
    go_wp2_with (fail)
    refine (F.out _).mono ?_
    rintro e z1 ⟨rfl, rfl⟩
    go_wp2_with (first
      | go_skip
      | ((with_reducible refine at_op 27 ?_); refine L_load 85 (.tmp 3) rfl (by kernel_rfl) _ _ rfl (seenC s.pc 0 0 0 s.csrs).toArray (row_range HSX.out) Tryz.underlying85 rfl 9 info_seen rfl ?_))
    refine (trap_calls s.pc 0 0 0 cause s.pc s.csrs _ ok.pc hc32 ok.csrs).mono ?_
    rintro e z2 ⟨rfl, rfl⟩
    generalize hMM : trapP s.pc s.csrs cause s.pc = MM
    have HMM := Lib.hid hMM
    clear hMM
    go_wp2_with (first
      | go_skip
      | ((with_reducible refine at_st 2 ?_); refine L_store_row 67 (.tmp 2) (.tmp 31) rfl (by kernel_rfl) zz.heap.size 0 rfl zMade.cells 67 (heap_old (heap_old (heap_old RX.out _) _) _) MM.cells.toArray rfl 13 info_made rfl (by decide) (MadeV.one _) ?_))
    intro wZ bZ uZ zZ
    rw [spl_all (by rfl)] at bZ
    go_wp2_with (fail)
    refine bodyPost_ret (results_cell_row rfl _ _ zz.heap.size 67 MM.cells.toArray _ _ rfl bZ Tryz.underlying67 rfl info_made) rfl ⟨by rw [HE.out, HMM.out], ?_⟩
    exact (((UX.out.alloc _).alloc _).alloc _).then uZ (fun x hx hlt => by simp at hx; omega)
end Go.Proofs.YtggjmdgonjhioaaGreat
