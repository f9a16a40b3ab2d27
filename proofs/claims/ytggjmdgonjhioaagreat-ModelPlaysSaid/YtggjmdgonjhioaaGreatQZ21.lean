/- The code's decoding: instructions of a register and a number. -/
import Derived.Test.YtggjmdgonjhioaaGreatQZ07
namespace Go.Proofs.YtggjmdgonjhioaaGreat
open Go.RowKit Go.Dio
set_option linter.unusedSimpArgs false
set_option linter.unusedVariables false

theorem blk_upd {w w' : World} {b : Nat} {o : Obj} (h : w.heap[b]? = some o) (u : Upd [] w w') : w'.heap[b]? = some o := u.keep h (by simp)
theorem alloc_drewN (W : World) (o : Obj) (n : Nat) : (W.alloc o).drewN n = (W.drewN n).alloc o := rfl
theorem cell_alloc {W : World} {b i : Nat} {o : Obj} {v : Value} (h : W.cell? ⟨b, i, none⟩ = some v) (hb : b < W.heap.size) : (W.alloc o).cell? ⟨b, i, none⟩ = some v := by
  rw [← h]; exact World.cell?_of_block (by show (W.heap.push o)[b]? = _; simp [Array.getElem?_push, Nat.ne_of_lt hb])
theorem immP_reg (w f3 f7 rd r1 r2 : Nat) (h1 : f3 ≠ 1) (h5 : f3 ≠ 5) : immP w f3 f7 rd r1 r2 = withI (nth [19, 0, 20, 21, 22, 0, 23, 24] f3) ⟨0, rd, r1, 0, immI w⟩ := by unfold immP; exact if_pos ⟨h1, h5⟩
set_option maxRecDepth 20000 in
set_option maxHeartbeats 2000000 in
theorem immediate_calls (w code f3 f7 rd r1 r2 : Nat) (hw : w < 2 ^ 32) (h3 : f3 < 8) (h2 : r2 < 32) (zz : World) :
    Calls Tryz.prog 94 #[.agg (partsArr w code f3 f7 rd r1 r2)] zz fun e z' => e = .returned (.agg (immP w f3 f7 rd r1 r2).arr) ∧ Upd [] zz z' := by
  unfold partsArr
  go_enter Tryz.func94, Tryz.ntmps94
  go_upto_region 1 with (fail)
  generalize hW : World.alloc (World.alloc zz _) _ = W
  have B1 : W.heap[zz.heap.size]? = some (.cells (partsArr w code f3 f7 rd r1 r2) 114 (0, 0)) := by rw [← hW]; exact heap_old (hl1 _ _) _
  have B2 : W.heap[zz.heap.size + 1]? = some (.cells noI.arr 50 (0, 0)) := by rw [← hW]; exact hl2 _ _ _
  have U : Hid (Upd [] zz W) := Lib.hid (by rw [← hW]; exact ((Upd.refl _ _).alloc _).alloc _)
  have hS : W.heap.size = zz.heap.size + 2 := by rw [← hW]; simp
  clear hW
  have n1 : ∀ x : Near [] W, x.1.cell? ⟨zz.heap.size, 4, none⟩ = some (.int .i64 (rd : Int)) := fun x => by rw [cells_of (x.2.keep B1 (by simp))]; rfl
  have n2 : ∀ x : Near [] W, x.1.cell? ⟨zz.heap.size, 5, none⟩ = some (.int .i64 (r1 : Int)) := fun x => by rw [cells_of (x.2.keep B1 (by simp))]; rfl
  have n3 : ∀ x : Near [] W, x.1.cell? ⟨zz.heap.size, 0, none⟩ = some (.int .u32 (w : Int)) := fun x => by rw [cells_of (x.2.keep B1 (by simp))]; rfl
  have P1 := Lib.hid B1
  have P2 := Lib.hid B2
  clear B1 B2
  refine wp_region_tree (fun z => ∃ x : Near [] W, z = x.1) (.two [0, 1, 2, 3, 4, 5] 6 (.one [7] 8 (.one [] 9 (.done []))) 8 (.one [] 6 (.one [7] 9 (.done [])))) (by kernel_rfl) (by kernel_rfl) (by decide) (by kernel_rfl) (fun _ d _ _ _ h => by cases d <;> exact h) ⟨⟨(W).drew, (Upd.refl _ _).drew⟩, rfl⟩ ?_
  refine tree_two ?_
  simp only [opsAt, List.map_cons, List.map_nil, List.getElem?_toArray, List.getElem?_cons_zero, List.getElem?_cons_succ, Option.getD_some]
  repeat (go_big_quiet_step (fail))
  refine wpQuiet_nil ?_
  refine ⟨?_, ?_⟩
  · go_wp2_with fail
    refine (fImmI_calls w _ hw).mono ?_
    rintro e z1 ⟨rfl, k, rfl⟩
    go_wp2_with fail
    refine tree_same ⟨⟨_, Upd.drewN _ (Upd.refl _ _)⟩, rfl⟩ ?_
    refine tree_one ?_
    simp only [opsAt, List.map_cons, List.map_nil, List.getElem?_toArray, List.getElem?_cons_zero, List.getElem?_cons_succ, Option.getD_some]
    repeat (go_big_quiet_step (fail))
    refine wpQuiet_nil ?_
    go_wp2_with fail
    refine tree_same ⟨⟨_, (Upd.drewN _ (Upd.refl _ _)).alloc _⟩, rfl⟩ ?_
    refine tree_one ?_
    simp only [opsAt, List.map_cons, List.map_nil, List.getElem?_toArray, List.getElem?_cons_zero, List.getElem?_cons_succ, Option.getD_some]
    repeat (go_big_quiet_step (fail))
    refine wpQuiet_nil ?_
    go_wp2_with fail
    refine tree_same ⟨⟨_, (Upd.drewN _ (Upd.refl _ _)).alloc _⟩, rfl⟩ ?_
    refine tree_done ?_
    simp only [opsAt, List.map_cons, List.map_nil, List.getElem?_toArray, List.getElem?_cons_zero, List.getElem?_cons_succ, Option.getD_some]
    repeat (go_big_quiet_step (fail))
    refine wpQuiet_nil ?_
    clear n1 n2 n3
    have Q1 : Hid ((W.drewN (1 + k)).heap[zz.heap.size]? = some (.cells (partsArr w code f3 f7 rd r1 r2) 114 (0, 0))) := P1
    have Q2 : Hid ((W.drewN (1 + k)).heap[zz.heap.size + 1]? = some (.cells noI.arr 50 (0, 0))) := P2
    have UX : Hid (Upd [] zz (W.drewN (1 + k))) := Lib.hid (U.out.drewN _)
    have hX : (W.drewN (1 + k)).heap.size = zz.heap.size + 2 := hS
    clear P1 P2 U
    generalize W.drewN (1 + k) = X at Q1 Q2 UX hX ⊢
    have c2 : ∀ o, (X.alloc o).cell? ⟨zz.heap.size, 2, none⟩ = some (.int .i64 (f3 : Int)) := fun o => by rw [cells_of (heap_old Q1.out o)]; rfl
    have c3 : ∀ o, (X.alloc o).cell? ⟨zz.heap.size, 3, none⟩ = some (.int .i64 (f7 : Int)) := fun o => by rw [cells_of (heap_old Q1.out o)]; rfl
    have c6 : ∀ o, (X.alloc o).cell? ⟨zz.heap.size, 6, none⟩ = some (.int .i64 (r2 : Int)) := fun o => by rw [cells_of (heap_old Q1.out o)]; rfl
    by_cases h1 : f3 ≠ 1 ∧ f3 ≠ 5
    · obtain ⟨g1, g5⟩ := h1
      have d1 : ((f3 : Int) != 1) = true := (cast_ne_b g1).2
      have d5 : ((f3 : Int) != 5) = true := (cast_ne_b g5).2
      have hx : ∀ w, (Instr.index 117 (.agg #[.int .i64 19, .int .i64 0, .int .i64 20, .int .i64 21, .int .i64 22, .int .i64 0, .int .i64 23, .int .i64 24]) (.int .i64 (f3 : Int))).run Tryz.prog w = .ok (.int .i64 ((nth [19, 0, 20, 21, 22, 0, 23, 24] f3 : Nat) : Int)) w := ix8 19 0 20 21 22 0 23 24 f3 h3
      have HE := Lib.hid (immP_reg w f3 f7 rd r1 r2 g1 g5)
      clear g1 g5
      go_wp2_with (fail)
      have R1 : Hid (∀ x : Near [zz.heap.size + 1] (X.alloc (.cells #[.int .i64 0, .int .i64 (rd : Int), .int .i64 (r1 : Int), .int .i64 0, .int .i32 (immI w)] 50)), x.1.rangeAt zz.heap.size 0 (partsArr w code f3 f7 rd r1 r2).toList) := Lib.hid fun x => row_range (x.2.keep (heap_old Q1.out _) (by simp))
      have R3 : Hid (∀ x : Near [zz.heap.size + 1] (X.alloc (.cells #[.int .i64 0, .int .i64 (rd : Int), .int .i64 (r1 : Int), .int .i64 0, .int .i32 (immI w)] 50)), x.1.rangeAt (zz.heap.size + 2) 0 (InstV.arr ⟨0, rd, r1, 0, immI w⟩).toList) := Lib.hid fun x => row_range (x.2.keep (by rw [← hX]; exact hl1 _ _) (by simp))
      have n2 : ∀ x : Near [zz.heap.size + 1] (X.alloc (.cells #[.int .i64 0, .int .i64 (rd : Int), .int .i64 (r1 : Int), .int .i64 0, .int .i32 (immI w)] 50)), x.1.cell? ⟨zz.heap.size, 2, none⟩ = some (.int .i64 (f3 : Int)) := fun x => by rw [cells_of (x.2.keep (heap_old Q1.out _) (by simp))]; rfl
      refine wp_region_plan (fun z => ∃ x : Near [zz.heap.size + 1] (X.alloc (.cells #[.int .i64 0, .int .i64 (rd : Int), .int .i64 (r1 : Int), .int .i64 0, .int .i32 (immI w)] 50)), z = x.1) [([0, 1, 2, 3, 4, 5], 6), ([], 7)] [] (by kernel_rfl) (by kernel_rfl) (by kernel_rfl) (by kernel_rfl) (fun _ d _ _ _ h => by cases d <;> exact h) ⟨⟨((X.alloc (.cells #[.int .i64 0, .int .i64 (rd : Int), .int .i64 (r1 : Int), .int .i64 0, .int .i32 (immI w)] 50))).drew, (Upd.refl _ _).drew⟩, rfl⟩ ?_
      refine plan_next ?_
      simp only [opsAt, List.map_cons, List.map_nil, List.getElem?_toArray, List.getElem?_cons_zero, List.getElem?_cons_succ, Option.getD_some]
      repeat (first
        | go_big_quiet_step (fail)
        | (refine Q_load 114 (.tmp 1) rfl (by kernel_rfl) _ _ rfl (partsArr w code f3 f7 rd r1 r2) (by rintro _ ⟨y, rfl⟩; exact R1.out y) Tryz.underlying114 rfl 7 info_parts rfl ?_; go_simp)
        | (refine Q_load 50 (.tmp 3) rfl (by kernel_rfl) _ _ rfl (InstV.arr ⟨0, rd, r1, 0, immI w⟩) (by rintro _ ⟨y, rfl⟩; exact R3.out y) Tryz.underlying50 rfl 5 info_inst rfl ?_; go_simp))
      refine wpQuiet_nil ?_
      refine plan_one rfl ?_
      go_wp2_with fail
      refine (with_calls w code f3 f7 rd r1 r2 (nth [19, 0, 20, 21, 22, 0, 23, 24] f3) ⟨0, rd, r1, 0, immI w⟩ _).mono ?_
      rintro e w3 ⟨rfl, u3⟩
      have V3 := Lib.hid (((Upd.refl [zz.heap.size + 1] _).drew).trans (u3.mono (T := [zz.heap.size + 1]) (by simp)))
      have R2 := Lib.hid (u3.keep (show (World.drew (X.alloc _)).heap[zz.heap.size + 1]? = _ from heap_old Q2.out _) (by simp))
      have U3 := Lib.hid (UX.out.trans ((((Upd.refl [] X).alloc _).drew).trans u3))
      have NR := Lib.hid (show (withI (nth [19, 0, 20, 21, 22, 0, 23, 24] f3) ⟨0, rd, r1, 0, immI w⟩).arr = (immP w f3 f7 rd r1 r2).arr by rw [HE.out])
      clear u3
      go_wp2_with fail
      refine plan_same ⟨⟨_, V3.out⟩, rfl⟩ ?_
      refine plan_next ?_
      simp only [opsAt, List.map_cons, List.map_nil, List.getElem?_toArray, List.getElem?_cons_zero, List.getElem?_cons_succ, Option.getD_some]
      repeat (go_big_quiet_step (fail))
      refine wpQuiet_nil ?_
      refine plan_one rfl ?_
      refine L_store_row 50 (.tmp 2) (.tmp 26) rfl (by kernel_rfl) (zz.heap.size + 1) 0 rfl noI.arr.toList 50 R2.out (withI (nth [19, 0, 20, 21, 22, 0, 23, 24] f3) ⟨0, rd, r1, 0, immI w⟩).arr rfl 5 info_inst rfl (by decide) (InstV.one _) ?_
      intro wA bA uA zA
      rw [spl_all (by rfl)] at bA
      refine plan_same ⟨⟨_, V3.out.trans uA⟩, rfl⟩ ?_
      refine plan_last ?_
      simp only [opsAt, List.map_cons, List.map_nil, List.getElem?_toArray, List.getElem?_cons_zero, List.getElem?_cons_succ, Option.getD_some]
      repeat (go_big_quiet_step (fail))
      refine wpQuiet_nil ?_
      unfold planEnd
      go_wp2_with fail
      refine bodyPost_ret (results_cell_row rfl _ _ (zz.heap.size + 1) 50 ((withI (nth [19, 0, 20, 21, 22, 0, 23, 24] f3) ⟨0, rd, r1, 0, immI w⟩).arr) _ _ rfl bA Tryz.underlying50 rfl info_inst) rfl ⟨by rw [NR.out], ?_⟩
      exact U3.out.then uA (fun x hx hlt => by simp at hx; omega)
    · have e2 : IntKind.i32.wrap (r2 : Int) = (r2 : Int) := by rw [IntKind.wrap_i32]; omega
      rcases (by omega : f3 = 1 ∨ f3 = 5) with rfl | rfl
      · by_cases h7 : f7 = 0
        · subst h7
          go_wp2_with (first
            | go_skip
            | ((with_reducible refine at_st 2 ?_); refine L_store_row 50 (.tmp 2) (.tmp 62) rfl (by kernel_rfl) (zz.heap.size + 1) 0 rfl noI.arr.toList 50 (heap_old Q2.out _) (InstV.arr ⟨25, rd, r1, 0, (r2 : Int)⟩) rfl 5 info_inst rfl (by decide) (InstV.one _) ?_))
          intro wA bA uA zA
          rw [spl_all (by rfl)] at bA
          go_wp2_with (fail)
          refine bodyPost_ret (results_cell_row rfl _ _ (zz.heap.size + 1) 50 (InstV.arr ⟨25, rd, r1, 0, (r2 : Int)⟩) _ _ rfl bA Tryz.underlying50 rfl info_inst) rfl ⟨by first | rfl | rw [HE.out], ?_⟩
          exact (UX.out.alloc _).then uA (fun x hx hlt => by simp at hx; omega)
        · have d7 : ((f7 : Int) == 0) = false := (cast_ne_b h7).1
          have HE := Lib.hid (show noI = immP w 1 f7 rd r1 r2 by unfold immP; simp [h7])
          clear h7
          go_wp2_with (first
            | go_skip
            | ((with_reducible refine at_st 2 ?_); refine L_store_row 50 (.tmp 2) (.tmp 31) rfl (by kernel_rfl) (zz.heap.size + 1) 0 rfl noI.arr.toList 50 (heap_old Q2.out _) (InstV.arr noI) rfl 5 info_inst rfl (by decide) (InstV.one _) ?_))
          intro wA bA uA zA
          rw [spl_all (by rfl)] at bA
          go_wp2_with (fail)
          refine bodyPost_ret (results_cell_row rfl _ _ (zz.heap.size + 1) 50 (InstV.arr noI) _ _ rfl bA Tryz.underlying50 rfl info_inst) rfl ⟨by first | rfl | rw [HE.out], ?_⟩
          exact (UX.out.alloc _).then uA (fun x hx hlt => by simp at hx; omega)
      · by_cases h7 : f7 = 0
        · subst h7
          go_wp2_with (first
            | go_skip
            | ((with_reducible refine at_st 2 ?_); refine L_store_row 50 (.tmp 2) (.tmp 62) rfl (by kernel_rfl) (zz.heap.size + 1) 0 rfl noI.arr.toList 50 (heap_old Q2.out _) (InstV.arr ⟨26, rd, r1, 0, (r2 : Int)⟩) rfl 5 info_inst rfl (by decide) (InstV.one _) ?_))
          intro wA bA uA zA
          rw [spl_all (by rfl)] at bA
          go_wp2_with (fail)
          refine bodyPost_ret (results_cell_row rfl _ _ (zz.heap.size + 1) 50 (InstV.arr ⟨26, rd, r1, 0, (r2 : Int)⟩) _ _ rfl bA Tryz.underlying50 rfl info_inst) rfl ⟨by first | rfl | rw [HE.out], ?_⟩
          exact (UX.out.alloc _).then uA (fun x hx hlt => by simp at hx; omega)
        · have d7 : ((f7 : Int) == 0) = false := (cast_ne_b h7).1
          by_cases h8 : f7 = 32
          · subst h8
            go_wp2_with (first
              | go_skip
              | ((with_reducible refine at_st 2 ?_); refine L_store_row 50 (.tmp 2) (.tmp 62) rfl (by kernel_rfl) (zz.heap.size + 1) 0 rfl noI.arr.toList 50 (heap_old Q2.out _) (InstV.arr ⟨27, rd, r1, 0, (r2 : Int)⟩) rfl 5 info_inst rfl (by decide) (InstV.one _) ?_))
            intro wA bA uA zA
            rw [spl_all (by rfl)] at bA
            go_wp2_with (fail)
            refine bodyPost_ret (results_cell_row rfl _ _ (zz.heap.size + 1) 50 (InstV.arr ⟨27, rd, r1, 0, (r2 : Int)⟩) _ _ rfl bA Tryz.underlying50 rfl info_inst) rfl ⟨by first | rfl | rw [HE.out], ?_⟩
            exact (UX.out.alloc _).then uA (fun x hx hlt => by simp at hx; omega)
          · have d8 : ((f7 : Int) == 32) = false := (cast_ne_b h8).1
            have HE := Lib.hid (show noI = immP w 5 f7 rd r1 r2 by unfold immP; simp [h7, h8])
            clear h7 h8
            go_wp2_with (first
              | go_skip
              | ((with_reducible refine at_st 2 ?_); refine L_store_row 50 (.tmp 2) (.tmp 31) rfl (by kernel_rfl) (zz.heap.size + 1) 0 rfl noI.arr.toList 50 (heap_old Q2.out _) (InstV.arr noI) rfl 5 info_inst rfl (by decide) (InstV.one _) ?_))
            intro wA bA uA zA
            rw [spl_all (by rfl)] at bA
            go_wp2_with (fail)
            refine bodyPost_ret (results_cell_row rfl _ _ (zz.heap.size + 1) 50 (InstV.arr noI) _ _ rfl bA Tryz.underlying50 rfl info_inst) rfl ⟨by first | rfl | rw [HE.out], ?_⟩
            exact (UX.out.alloc _).then uA (fun x hx hlt => by simp at hx; omega)
  · go_wp2_with fail
    refine tree_same ⟨⟨_, ((Upd.refl _ _).drew).alloc _⟩, rfl⟩ ?_
    refine tree_one ?_
    simp only [opsAt, List.map_cons, List.map_nil, List.getElem?_toArray, List.getElem?_cons_zero, List.getElem?_cons_succ, Option.getD_some]
    repeat (go_big_quiet_step (fail))
    refine wpQuiet_nil ?_
    go_wp2_with fail
    refine (fImmI_calls w _ hw).mono ?_
    rintro e z1 ⟨rfl, k, rfl⟩
    go_wp2_with fail
    refine tree_same ⟨⟨_, Upd.drewN _ ((Upd.refl _ W).alloc _)⟩, rfl⟩ ?_
    refine tree_one ?_
    simp only [opsAt, List.map_cons, List.map_nil, List.getElem?_toArray, List.getElem?_cons_zero, List.getElem?_cons_succ, Option.getD_some]
    repeat (go_big_quiet_step (fail))
    refine wpQuiet_nil ?_
    rw [alloc_drewN]
    go_wp2_with fail
    refine tree_same ⟨⟨_, (Upd.drewN _ (Upd.refl _ _)).alloc _⟩, rfl⟩ ?_
    refine tree_done ?_
    simp only [opsAt, List.map_cons, List.map_nil, List.getElem?_toArray, List.getElem?_cons_zero, List.getElem?_cons_succ, Option.getD_some]
    repeat (go_big_quiet_step (fail))
    refine wpQuiet_nil ?_
    clear n1 n2 n3
    have Q1 : Hid ((W.drewN (1 + k)).heap[zz.heap.size]? = some (.cells (partsArr w code f3 f7 rd r1 r2) 114 (0, 0))) := P1
    have Q2 : Hid ((W.drewN (1 + k)).heap[zz.heap.size + 1]? = some (.cells noI.arr 50 (0, 0))) := P2
    have UX : Hid (Upd [] zz (W.drewN (1 + k))) := Lib.hid (U.out.drewN _)
    have hX : (W.drewN (1 + k)).heap.size = zz.heap.size + 2 := hS
    clear P1 P2 U
    generalize W.drewN (1 + k) = X at Q1 Q2 UX hX ⊢
    have c2 : ∀ o, (X.alloc o).cell? ⟨zz.heap.size, 2, none⟩ = some (.int .i64 (f3 : Int)) := fun o => by rw [cells_of (heap_old Q1.out o)]; rfl
    have c3 : ∀ o, (X.alloc o).cell? ⟨zz.heap.size, 3, none⟩ = some (.int .i64 (f7 : Int)) := fun o => by rw [cells_of (heap_old Q1.out o)]; rfl
    have c6 : ∀ o, (X.alloc o).cell? ⟨zz.heap.size, 6, none⟩ = some (.int .i64 (r2 : Int)) := fun o => by rw [cells_of (heap_old Q1.out o)]; rfl
    by_cases h1 : f3 ≠ 1 ∧ f3 ≠ 5
    · obtain ⟨g1, g5⟩ := h1
      have d1 : ((f3 : Int) != 1) = true := (cast_ne_b g1).2
      have d5 : ((f3 : Int) != 5) = true := (cast_ne_b g5).2
      have hx : ∀ w, (Instr.index 117 (.agg #[.int .i64 19, .int .i64 0, .int .i64 20, .int .i64 21, .int .i64 22, .int .i64 0, .int .i64 23, .int .i64 24]) (.int .i64 (f3 : Int))).run Tryz.prog w = .ok (.int .i64 ((nth [19, 0, 20, 21, 22, 0, 23, 24] f3 : Nat) : Int)) w := ix8 19 0 20 21 22 0 23 24 f3 h3
      have HE := Lib.hid (immP_reg w f3 f7 rd r1 r2 g1 g5)
      clear g1 g5
      go_wp2_with (fail)
      have R1 : Hid (∀ x : Near [zz.heap.size + 1] (X.alloc (.cells #[.int .i64 0, .int .i64 (rd : Int), .int .i64 (r1 : Int), .int .i64 0, .int .i32 (immI w)] 50)), x.1.rangeAt zz.heap.size 0 (partsArr w code f3 f7 rd r1 r2).toList) := Lib.hid fun x => row_range (x.2.keep (heap_old Q1.out _) (by simp))
      have R3 : Hid (∀ x : Near [zz.heap.size + 1] (X.alloc (.cells #[.int .i64 0, .int .i64 (rd : Int), .int .i64 (r1 : Int), .int .i64 0, .int .i32 (immI w)] 50)), x.1.rangeAt (zz.heap.size + 2) 0 (InstV.arr ⟨0, rd, r1, 0, immI w⟩).toList) := Lib.hid fun x => row_range (x.2.keep (by rw [← hX]; exact hl1 _ _) (by simp))
      have n2 : ∀ x : Near [zz.heap.size + 1] (X.alloc (.cells #[.int .i64 0, .int .i64 (rd : Int), .int .i64 (r1 : Int), .int .i64 0, .int .i32 (immI w)] 50)), x.1.cell? ⟨zz.heap.size, 2, none⟩ = some (.int .i64 (f3 : Int)) := fun x => by rw [cells_of (x.2.keep (heap_old Q1.out _) (by simp))]; rfl
      refine wp_region_plan (fun z => ∃ x : Near [zz.heap.size + 1] (X.alloc (.cells #[.int .i64 0, .int .i64 (rd : Int), .int .i64 (r1 : Int), .int .i64 0, .int .i32 (immI w)] 50)), z = x.1) [([0, 1, 2, 3, 4, 5], 6), ([], 7)] [] (by kernel_rfl) (by kernel_rfl) (by kernel_rfl) (by kernel_rfl) (fun _ d _ _ _ h => by cases d <;> exact h) ⟨⟨((X.alloc (.cells #[.int .i64 0, .int .i64 (rd : Int), .int .i64 (r1 : Int), .int .i64 0, .int .i32 (immI w)] 50))).drew, (Upd.refl _ _).drew⟩, rfl⟩ ?_
      refine plan_next ?_
      simp only [opsAt, List.map_cons, List.map_nil, List.getElem?_toArray, List.getElem?_cons_zero, List.getElem?_cons_succ, Option.getD_some]
      repeat (first
        | go_big_quiet_step (fail)
        | (refine Q_load 114 (.tmp 1) rfl (by kernel_rfl) _ _ rfl (partsArr w code f3 f7 rd r1 r2) (by rintro _ ⟨y, rfl⟩; exact R1.out y) Tryz.underlying114 rfl 7 info_parts rfl ?_; go_simp)
        | (refine Q_load 50 (.tmp 3) rfl (by kernel_rfl) _ _ rfl (InstV.arr ⟨0, rd, r1, 0, immI w⟩) (by rintro _ ⟨y, rfl⟩; exact R3.out y) Tryz.underlying50 rfl 5 info_inst rfl ?_; go_simp))
      refine wpQuiet_nil ?_
      refine plan_one rfl ?_
      go_wp2_with fail
      refine (with_calls w code f3 f7 rd r1 r2 (nth [19, 0, 20, 21, 22, 0, 23, 24] f3) ⟨0, rd, r1, 0, immI w⟩ _).mono ?_
      rintro e w3 ⟨rfl, u3⟩
      have V3 := Lib.hid (((Upd.refl [zz.heap.size + 1] _).drew).trans (u3.mono (T := [zz.heap.size + 1]) (by simp)))
      have R2 := Lib.hid (u3.keep (show (World.drew (X.alloc _)).heap[zz.heap.size + 1]? = _ from heap_old Q2.out _) (by simp))
      have U3 := Lib.hid (UX.out.trans ((((Upd.refl [] X).alloc _).drew).trans u3))
      have NR := Lib.hid (show (withI (nth [19, 0, 20, 21, 22, 0, 23, 24] f3) ⟨0, rd, r1, 0, immI w⟩).arr = (immP w f3 f7 rd r1 r2).arr by rw [HE.out])
      clear u3
      go_wp2_with fail
      refine plan_same ⟨⟨_, V3.out⟩, rfl⟩ ?_
      refine plan_next ?_
      simp only [opsAt, List.map_cons, List.map_nil, List.getElem?_toArray, List.getElem?_cons_zero, List.getElem?_cons_succ, Option.getD_some]
      repeat (go_big_quiet_step (fail))
      refine wpQuiet_nil ?_
      refine plan_one rfl ?_
      refine L_store_row 50 (.tmp 2) (.tmp 26) rfl (by kernel_rfl) (zz.heap.size + 1) 0 rfl noI.arr.toList 50 R2.out (withI (nth [19, 0, 20, 21, 22, 0, 23, 24] f3) ⟨0, rd, r1, 0, immI w⟩).arr rfl 5 info_inst rfl (by decide) (InstV.one _) ?_
      intro wA bA uA zA
      rw [spl_all (by rfl)] at bA
      refine plan_same ⟨⟨_, V3.out.trans uA⟩, rfl⟩ ?_
      refine plan_last ?_
      simp only [opsAt, List.map_cons, List.map_nil, List.getElem?_toArray, List.getElem?_cons_zero, List.getElem?_cons_succ, Option.getD_some]
      repeat (go_big_quiet_step (fail))
      refine wpQuiet_nil ?_
      unfold planEnd
      go_wp2_with fail
      refine bodyPost_ret (results_cell_row rfl _ _ (zz.heap.size + 1) 50 ((withI (nth [19, 0, 20, 21, 22, 0, 23, 24] f3) ⟨0, rd, r1, 0, immI w⟩).arr) _ _ rfl bA Tryz.underlying50 rfl info_inst) rfl ⟨by rw [NR.out], ?_⟩
      exact U3.out.then uA (fun x hx hlt => by simp at hx; omega)
    · have e2 : IntKind.i32.wrap (r2 : Int) = (r2 : Int) := by rw [IntKind.wrap_i32]; omega
      rcases (by omega : f3 = 1 ∨ f3 = 5) with rfl | rfl
      · by_cases h7 : f7 = 0
        · subst h7
          go_wp2_with (first
            | go_skip
            | ((with_reducible refine at_st 2 ?_); refine L_store_row 50 (.tmp 2) (.tmp 62) rfl (by kernel_rfl) (zz.heap.size + 1) 0 rfl noI.arr.toList 50 (heap_old Q2.out _) (InstV.arr ⟨25, rd, r1, 0, (r2 : Int)⟩) rfl 5 info_inst rfl (by decide) (InstV.one _) ?_))
          intro wA bA uA zA
          rw [spl_all (by rfl)] at bA
          go_wp2_with (fail)
          refine bodyPost_ret (results_cell_row rfl _ _ (zz.heap.size + 1) 50 (InstV.arr ⟨25, rd, r1, 0, (r2 : Int)⟩) _ _ rfl bA Tryz.underlying50 rfl info_inst) rfl ⟨by first | rfl | rw [HE.out], ?_⟩
          exact (UX.out.alloc _).then uA (fun x hx hlt => by simp at hx; omega)
        · have d7 : ((f7 : Int) == 0) = false := (cast_ne_b h7).1
          have HE := Lib.hid (show noI = immP w 1 f7 rd r1 r2 by unfold immP; simp [h7])
          clear h7
          go_wp2_with (first
            | go_skip
            | ((with_reducible refine at_st 2 ?_); refine L_store_row 50 (.tmp 2) (.tmp 31) rfl (by kernel_rfl) (zz.heap.size + 1) 0 rfl noI.arr.toList 50 (heap_old Q2.out _) (InstV.arr noI) rfl 5 info_inst rfl (by decide) (InstV.one _) ?_))
          intro wA bA uA zA
          rw [spl_all (by rfl)] at bA
          go_wp2_with (fail)
          refine bodyPost_ret (results_cell_row rfl _ _ (zz.heap.size + 1) 50 (InstV.arr noI) _ _ rfl bA Tryz.underlying50 rfl info_inst) rfl ⟨by first | rfl | rw [HE.out], ?_⟩
          exact (UX.out.alloc _).then uA (fun x hx hlt => by simp at hx; omega)
      · by_cases h7 : f7 = 0
        · subst h7
          go_wp2_with (first
            | go_skip
            | ((with_reducible refine at_st 2 ?_); refine L_store_row 50 (.tmp 2) (.tmp 62) rfl (by kernel_rfl) (zz.heap.size + 1) 0 rfl noI.arr.toList 50 (heap_old Q2.out _) (InstV.arr ⟨26, rd, r1, 0, (r2 : Int)⟩) rfl 5 info_inst rfl (by decide) (InstV.one _) ?_))
          intro wA bA uA zA
          rw [spl_all (by rfl)] at bA
          go_wp2_with (fail)
          refine bodyPost_ret (results_cell_row rfl _ _ (zz.heap.size + 1) 50 (InstV.arr ⟨26, rd, r1, 0, (r2 : Int)⟩) _ _ rfl bA Tryz.underlying50 rfl info_inst) rfl ⟨by first | rfl | rw [HE.out], ?_⟩
          exact (UX.out.alloc _).then uA (fun x hx hlt => by simp at hx; omega)
        · have d7 : ((f7 : Int) == 0) = false := (cast_ne_b h7).1
          by_cases h8 : f7 = 32
          · subst h8
            go_wp2_with (first
              | go_skip
              | ((with_reducible refine at_st 2 ?_); refine L_store_row 50 (.tmp 2) (.tmp 62) rfl (by kernel_rfl) (zz.heap.size + 1) 0 rfl noI.arr.toList 50 (heap_old Q2.out _) (InstV.arr ⟨27, rd, r1, 0, (r2 : Int)⟩) rfl 5 info_inst rfl (by decide) (InstV.one _) ?_))
            intro wA bA uA zA
            rw [spl_all (by rfl)] at bA
            go_wp2_with (fail)
            refine bodyPost_ret (results_cell_row rfl _ _ (zz.heap.size + 1) 50 (InstV.arr ⟨27, rd, r1, 0, (r2 : Int)⟩) _ _ rfl bA Tryz.underlying50 rfl info_inst) rfl ⟨by first | rfl | rw [HE.out], ?_⟩
            exact (UX.out.alloc _).then uA (fun x hx hlt => by simp at hx; omega)
          · have d8 : ((f7 : Int) == 32) = false := (cast_ne_b h8).1
            have HE := Lib.hid (show noI = immP w 5 f7 rd r1 r2 by unfold immP; simp [h7, h8])
            clear h7 h8
            go_wp2_with (first
              | go_skip
              | ((with_reducible refine at_st 2 ?_); refine L_store_row 50 (.tmp 2) (.tmp 31) rfl (by kernel_rfl) (zz.heap.size + 1) 0 rfl noI.arr.toList 50 (heap_old Q2.out _) (InstV.arr noI) rfl 5 info_inst rfl (by decide) (InstV.one _) ?_))
            intro wA bA uA zA
            rw [spl_all (by rfl)] at bA
            go_wp2_with (fail)
            refine bodyPost_ret (results_cell_row rfl _ _ (zz.heap.size + 1) 50 (InstV.arr noI) _ _ rfl bA Tryz.underlying50 rfl info_inst) rfl ⟨by first | rfl | rw [HE.out], ?_⟩
            exact (UX.out.alloc _).then uA (fun x hx hlt => by simp at hx; omega)
end Go.Proofs.YtggjmdgonjhioaaGreat
