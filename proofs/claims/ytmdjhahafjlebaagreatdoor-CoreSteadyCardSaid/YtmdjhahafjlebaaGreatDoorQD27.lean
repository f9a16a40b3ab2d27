/- The code's decoding: instructions of a register and a number. -/
import Derived.Test.YtmdjhahafjlebaaGreatDoorQD08
import Derived.Test.YtmdjhahafjlebaaGreatDoorQD05
import Derived.Deep.Cut
namespace Go.Proofs.YtmdjhahafjlebaaGreatDoor
open Go.RowKit Go.Dio
set_option linter.unusedSimpArgs false
set_option linter.unusedVariables false

theorem blk_upd {w w' : World} {b : Nat} {o : Obj} (h : w.heap[b]? = some o) (u : Upd [] w w') : w'.heap[b]? = some o := u.keep h (by simp)
theorem alloc_drewN (W : World) (o : Obj) (n : Nat) : (W.alloc o).drewN n = (W.drewN n).alloc o := rfl
theorem cell_alloc {W : World} {b i : Nat} {o : Obj} {v : Value} (h : W.cell? ⟨b, i, none⟩ = some v) (hb : b < W.heap.size) : (W.alloc o).cell? ⟨b, i, none⟩ = some v := by
  rw [← h]; exact World.cell?_of_block (by show (W.heap.push o)[b]? = _; simp [Array.getElem?_push, Nat.ne_of_lt hb])
theorem immP_reg (w f3 f7 rd r1 r2 : Nat) (h1 : f3 ≠ 1) (h5 : f3 ≠ 5) : immP w f3 f7 rd r1 r2 = withI (nth [19, 0, 20, 21, 22, 0, 23, 24] f3) ⟨0, rd, r1, 0, immI w⟩ := by unfold immP; exact if_pos ⟨h1, h5⟩
set_option maxRecDepth 20000 in
set_option maxHeartbeats 2000000 in
theorem immediate_calls (w code f3 f7 rd r1 r2 : Nat) (hw : w < 2 ^ 32) (h3 : f3 < 8) (h2 : r2 < 32) (zz : World) :
    Calls Tryz.prog 115 #[.agg (partsArr w code f3 f7 rd r1 r2)] zz fun e z' => e = .returned (.agg (immP w f3 f7 rd r1 r2).arr) ∧ Upd [] zz z' := by
  unfold partsArr
  go_enter Tryz.func115, Tryz.ntmps115
  go_upto_region 1 with (fail)
  generalize hW : World.alloc (World.alloc zz _) _ = W
  have B1 : W.heap[zz.heap.size]? = some (.cells (partsArr w code f3 f7 rd r1 r2) 144 (0, 0)) := by rw [← hW]; exact heap_old (hl1 _ _) _
  have B2 : W.heap[zz.heap.size + 1]? = some (.cells noI.arr 69 (0, 0)) := by rw [← hW]; exact hl2 _ _ _
  have U : Hid (Upd [] zz W) := Lib.hid (by rw [← hW]; exact ((Upd.refl _ _).alloc _).alloc _)
  have hS : W.heap.size = zz.heap.size + 2 := by rw [← hW]; simp
  clear hW
  have n1 : ∀ x : Near [] W, x.1.cell? ⟨zz.heap.size, 4, none⟩ = some (.int .i64 (rd : Int)) := fun x => by rw [cells_of (x.2.keep B1 (by simp))]; rfl
  have n2 : ∀ x : Near [] W, x.1.cell? ⟨zz.heap.size, 5, none⟩ = some (.int .i64 (r1 : Int)) := fun x => by rw [cells_of (x.2.keep B1 (by simp))]; rfl
  have n3 : ∀ x : Near [] W, x.1.cell? ⟨zz.heap.size, 0, none⟩ = some (.int .u32 (w : Int)) := fun x => by rw [cells_of (x.2.keep B1 (by simp))]; rfl
  have P1 := Lib.hid B1
  have P2 := Lib.hid B2
  clear B1 B2
  refine wp_region_tree (fun z => ∃ x : Near [] W, z = x.1) (.two [0, 1, 2, 3, 4, 5] 6 (.one [7] 8 (.one [] 9 (.done []))) 8 (.one [] 6 (.one [7] 9 (.done [])))) (by kernel_rfl) (by kernel_rfl) (by decide) (by kernel_rfl) (fun _ d _ _ _ h => by cases d <;> exact h) ⟨⟨(W).drew, (Upd.refl _ _).drew⟩, rfl⟩ ?_
  refine tree_two ?_
  simp only [opsAt, List.map_cons, List.map_nil, List.getElem?_toArray, List.getElem?_cons_zero, List.getElem?_cons_succ, Option.getD_some]
  repeat (go_big_quiet_step (fail))
  refine wpQuiet_nil ?_
  refine ⟨?_, ?_⟩
  · go_wp2_with fail
    refine (fImmI_calls w _ hw).mono ?_
    rintro e z1 ⟨rfl, k, rfl⟩
    go_wp2_with fail
    refine tree_same ⟨⟨_, Upd.drewN _ (Upd.refl _ _)⟩, rfl⟩ ?_
    refine tree_one ?_
    simp only [opsAt, List.map_cons, List.map_nil, List.getElem?_toArray, List.getElem?_cons_zero, List.getElem?_cons_succ, Option.getD_some]
    repeat (go_big_quiet_step (fail))
    refine wpQuiet_nil ?_
    go_wp2_with fail
    refine tree_same ⟨⟨_, (Upd.drewN _ (Upd.refl _ _)).alloc _⟩, rfl⟩ ?_
    refine tree_one ?_
    simp only [opsAt, List.map_cons, List.map_nil, List.getElem?_toArray, List.getElem?_cons_zero, List.getElem?_cons_succ, Option.getD_some]
    repeat (go_big_quiet_step (fail))
    refine wpQuiet_nil ?_
    go_wp2_with fail
    refine tree_same ⟨⟨_, (Upd.drewN _ (Upd.refl _ _)).alloc _⟩, rfl⟩ ?_
    refine tree_done ?_
    simp only [opsAt, List.map_cons, List.map_nil, List.getElem?_toArray, List.getElem?_cons_zero, List.getElem?_cons_succ, Option.getD_some]
    repeat (go_big_quiet_step (fail))
    refine wpQuiet_nil ?_
    clear n1 n2 n3
    have Q1 : Hid ((W.drewN (1 + k)).heap[zz.heap.size]? = some (.cells (partsArr w code f3 f7 rd r1 r2) 144 (0, 0))) := P1
    have Q2 : Hid ((W.drewN (1 + k)).heap[zz.heap.size + 1]? = some (.cells noI.arr 69 (0, 0))) := P2
    have UX : Hid (Upd [] zz (W.drewN (1 + k))) := Lib.hid (U.out.drewN _)
    have hX : (W.drewN (1 + k)).heap.size = zz.heap.size + 2 := hS
    clear P1 P2 U
    generalize W.drewN (1 + k) = X at Q1 Q2 UX hX ⊢
    have c2 : ∀ o, (X.alloc o).cell? ⟨zz.heap.size, 2, none⟩ = some (.int .i64 (f3 : Int)) := fun o => by rw [cells_of (heap_old Q1.out o)]; rfl
    have c3 : ∀ o, (X.alloc o).cell? ⟨zz.heap.size, 3, none⟩ = some (.int .i64 (f7 : Int)) := fun o => by rw [cells_of (heap_old Q1.out o)]; rfl
    have c6 : ∀ o, (X.alloc o).cell? ⟨zz.heap.size, 6, none⟩ = some (.int .i64 (r2 : Int)) := fun o => by rw [cells_of (heap_old Q1.out o)]; rfl
    by_cases h1 : f3 ≠ 1 ∧ f3 ≠ 5
    · obtain ⟨g1, g5⟩ := h1
      have d1 : ((f3 : Int) != 1) = true := (cast_ne_b g1).2
      have d5 : ((f3 : Int) != 5) = true := (cast_ne_b g5).2
      have hx : ∀ w, (Instr.index 147 (.agg #[.int .i64 19, .int .i64 0, .int .i64 20, .int .i64 21, .int .i64 22, .int .i64 0, .int .i64 23, .int .i64 24]) (.int .i64 (f3 : Int))).run Tryz.prog w = .ok (.int .i64 ((nth [19, 0, 20, 21, 22, 0, 23, 24] f3 : Nat) : Int)) w := ix8 19 0 20 21 22 0 23 24 f3 h3
      have HE := Lib.hid (immP_reg w f3 f7 rd r1 r2 g1 g5)
      clear g1 g5
      go_wp2_with (fail)
      have R1 : Hid (∀ x : Near [zz.heap.size + 1] (X.alloc (.cells #[.int .i64 0, .int .i64 (rd : Int), .int .i64 (r1 : Int), .int .i64 0, .int .i32 (immI w)] 69)), x.1.rangeAt zz.heap.size 0 (partsArr w code f3 f7 rd r1 r2).toList) := Lib.hid fun x => row_range (x.2.keep (heap_old Q1.out _) (by simp))
      have R3 : Hid (∀ x : Near [zz.heap.size + 1] (X.alloc (.cells #[.int .i64 0, .int .i64 (rd : Int), .int .i64 (r1 : Int), .int .i64 0, .int .i32 (immI w)] 69)), x.1.rangeAt (zz.heap.size + 2) 0 (InstV.arr ⟨0, rd, r1, 0, immI w⟩).toList) := Lib.hid fun x => row_range (x.2.keep (by rw [← hX]; exact hl1 _ _) (by simp))
      have n2 : ∀ x : Near [zz.heap.size + 1] (X.alloc (.cells #[.int .i64 0, .int .i64 (rd : Int), .int .i64 (r1 : Int), .int .i64 0, .int .i32 (immI w)] 69)), x.1.cell? ⟨zz.heap.size, 2, none⟩ = some (.int .i64 (f3 : Int)) := fun x => by rw [cells_of (x.2.keep (heap_old Q1.out _) (by simp))]; rfl
      refine wp_region_plan (fun z => ∃ x : Near [zz.heap.size + 1] (X.alloc (.cells #[.int .i64 0, .int .i64 (rd : Int), .int .i64 (r1 : Int), .int .i64 0, .int .i32 (immI w)] 69)), z = x.1) [([0, 1, 2, 3, 4, 5], 6), ([], 7)] [] (by kernel_rfl) (by kernel_rfl) (by kernel_rfl) (by kernel_rfl) (fun _ d _ _ _ h => by cases d <;> exact h) ⟨⟨((X.alloc (.cells #[.int .i64 0, .int .i64 (rd : Int), .int .i64 (r1 : Int), .int .i64 0, .int .i32 (immI w)] 69))).drew, (Upd.refl _ _).drew⟩, rfl⟩ ?_
      refine plan_next ?_
      simp only [opsAt, List.map_cons, List.map_nil, List.getElem?_toArray, List.getElem?_cons_zero, List.getElem?_cons_succ, Option.getD_some]
      repeat (first
        | go_big_quiet_step (fail)
        | (refine Q_load 144 (.tmp 1) rfl (by kernel_rfl) _ _ rfl (partsArr w code f3 f7 rd r1 r2) (by rintro _ ⟨y, rfl⟩; exact R1.out y) Tryz.underlying144 rfl 7 info_parts rfl ?_; go_simp)
        | (refine Q_load 69 (.tmp 3) rfl (by kernel_rfl) _ _ rfl (InstV.arr ⟨0, rd, r1, 0, immI w⟩) (by rintro _ ⟨y, rfl⟩; exact R3.out y) Tryz.underlying69 rfl 5 info_inst rfl ?_; go_simp))
      refine wpQuiet_nil ?_
      refine plan_one rfl ?_
      go_wp2_with fail
      refine (with_calls w code f3 f7 rd r1 r2 (nth [19, 0, 20, 21, 22, 0, 23, 24] f3) ⟨0, rd, r1, 0, immI w⟩ _).mono ?_
      rintro e w3 ⟨rfl, u3⟩
      have V3 := Lib.hid (((Upd.refl [zz.heap.size + 1] _).drew).trans (u3.mono (T := [zz.heap.size + 1]) (by simp)))
      have R2 := Lib.hid (u3.keep (show (World.drew (X.alloc _)).heap[zz.heap.size + 1]? = _ from heap_old Q2.out _) (by simp))
      have U3 := Lib.hid (UX.out.trans ((((Upd.refl [] X).alloc _).drew).trans u3))
      have NR := Lib.hid (show (withI (nth [19, 0, 20, 21, 22, 0, 23, 24] f3) ⟨0, rd, r1, 0, immI w⟩).arr = (immP w f3 f7 rd r1 r2).arr by rw [HE.out])
      clear u3
      go_wp2_with fail
      refine plan_same ⟨⟨_, V3.out⟩, rfl⟩ ?_
      refine plan_next ?_
      simp only [opsAt, List.map_cons, List.map_nil, List.getElem?_toArray, List.getElem?_cons_zero, List.getElem?_cons_succ, Option.getD_some]
      repeat (go_big_quiet_step (fail))
      refine wpQuiet_nil ?_
      refine plan_one rfl ?_
      refine L_store_row 69 (.tmp 2) (.tmp 26) rfl (by kernel_rfl) (zz.heap.size + 1) 0 rfl noI.arr.toList 69 R2.out (withI (nth [19, 0, 20, 21, 22, 0, 23, 24] f3) ⟨0, rd, r1, 0, immI w⟩).arr rfl 5 info_inst rfl (by decide) (InstV.one _) ?_
      intro wA bA uA zA
      rw [spl_all (by rfl)] at bA
      refine plan_same ⟨⟨_, V3.out.trans uA⟩, rfl⟩ ?_
      refine plan_last ?_
      simp only [opsAt, List.map_cons, List.map_nil, List.getElem?_toArray, List.getElem?_cons_zero, List.getElem?_cons_succ, Option.getD_some]
      repeat (go_big_quiet_step (fail))
      refine wpQuiet_nil ?_
      unfold planEnd
      go_wp2_with fail
      refine bodyPost_ret (results_cell_row rfl _ _ (zz.heap.size + 1) 69 ((withI (nth [19, 0, 20, 21, 22, 0, 23, 24] f3) ⟨0, rd, r1, 0, immI w⟩).arr) _ _ rfl bA Tryz.underlying69 rfl info_inst) rfl ⟨by rw [NR.out], ?_⟩
      exact U3.out.then uA (fun x hx hlt => by simp at hx; omega)
    · have e2 : IntKind.i32.wrap (r2 : Int) = (r2 : Int) := by rw [IntKind.wrap_i32]; omega
      rcases (by omega : f3 = 1 ∨ f3 = 5) with rfl | rfl
      · by_cases h7 : f7 = 0
        · subst h7
          go_wp2_with (first
            | go_skip
            | ((with_reducible refine at_st 2 ?_); refine L_store_row 69 (.tmp 2) (.tmp 62) rfl (by kernel_rfl) (zz.heap.size + 1) 0 rfl noI.arr.toList 69 (heap_old Q2.out _) (InstV.arr ⟨25, rd, r1, 0, (r2 : Int)⟩) rfl 5 info_inst rfl (by decide) (InstV.one _) ?_))
          intro wA bA uA zA
          rw [spl_all (by rfl)] at bA
          go_wp2_with (fail)
          refine bodyPost_ret (results_cell_row rfl _ _ (zz.heap.size + 1) 69 (InstV.arr ⟨25, rd, r1, 0, (r2 : Int)⟩) _ _ rfl bA Tryz.underlying69 rfl info_inst) rfl ⟨by first | rfl | rw [HE.out], ?_⟩
          exact (UX.out.alloc _).then uA (fun x hx hlt => by simp at hx; omega)
        · have d7 : ((f7 : Int) == 0) = false := (cast_ne_b h7).1
          have HE := Lib.hid (show noI = immP w 1 f7 rd r1 r2 by unfold immP; simp [h7])
          clear h7
          go_wp2_with (first
            | go_skip
            | ((with_reducible refine at_st 2 ?_); refine L_store_row 69 (.tmp 2) (.tmp 31) rfl (by kernel_rfl) (zz.heap.size + 1) 0 rfl noI.arr.toList 69 (heap_old Q2.out _) (InstV.arr noI) rfl 5 info_inst rfl (by decide) (InstV.one _) ?_))
          intro wA bA uA zA
          rw [spl_all (by rfl)] at bA
          go_wp2_with (fail)
          refine bodyPost_ret (results_cell_row rfl _ _ (zz.heap.size + 1) 69 (InstV.arr noI) _ _ rfl bA Tryz.underlying69 rfl info_inst) rfl ⟨by first | rfl | rw [HE.out], ?_⟩
          exact (UX.out.alloc _).then uA (fun x hx hlt => by simp at hx; omega)
      · by_cases h7 : f7 = 0
        · subst h7
          go_wp2_with (first
            | go_skip
            | ((with_reducible refine at_st 2 ?_); refine L_store_row 69 (.tmp 2) (.tmp 62) rfl (by kernel_rfl) (zz.heap.size + 1) 0 rfl noI.arr.toList 69 (heap_old Q2.out _) (InstV.arr ⟨26, rd, r1, 0, (r2 : Int)⟩) rfl 5 info_inst rfl (by decide) (InstV.one _) ?_))
          intro wA bA uA zA
          rw [spl_all (by rfl)] at bA
          go_wp2_with (fail)
          refine bodyPost_ret (results_cell_row rfl _ _ (zz.heap.size + 1) 69 (InstV.arr ⟨26, rd, r1, 0, (r2 : Int)⟩) _ _ rfl bA Tryz.underlying69 rfl info_inst) rfl ⟨by first | rfl | rw [HE.out], ?_⟩
          exact (UX.out.alloc _).then uA (fun x hx hlt => by simp at hx; omega)
        · have d7 : ((f7 : Int) == 0) = false := (cast_ne_b h7).1
          by_cases h8 : f7 = 32
          · subst h8
            go_wp2_with (first
              | go_skip
              | ((with_reducible refine at_st 2 ?_); refine L_store_row 69 (.tmp 2) (.tmp 62) rfl (by kernel_rfl) (zz.heap.size + 1) 0 rfl noI.arr.toList 69 (heap_old Q2.out _) (InstV.arr ⟨27, rd, r1, 0, (r2 : Int)⟩) rfl 5 info_inst rfl (by decide) (InstV.one _) ?_))
            intro wA bA uA zA
            rw [spl_all (by rfl)] at bA
            go_wp2_with (fail)
            refine bodyPost_ret (results_cell_row rfl _ _ (zz.heap.size + 1) 69 (InstV.arr ⟨27, rd, r1, 0, (r2 : Int)⟩) _ _ rfl bA Tryz.underlying69 rfl info_inst) rfl ⟨by first | rfl | rw [HE.out], ?_⟩
            exact (UX.out.alloc _).then uA (fun x hx hlt => by simp at hx; omega)
          · have d8 : ((f7 : Int) == 32) = false := (cast_ne_b h8).1
            have HE := Lib.hid (show noI = immP w 5 f7 rd r1 r2 by unfold immP; simp [h7, h8])
            clear h7 h8
            go_wp2_with (first
              | go_skip
              | ((with_reducible refine at_st 2 ?_); refine L_store_row 69 (.tmp 2) (.tmp 31) rfl (by kernel_rfl) (zz.heap.size + 1) 0 rfl noI.arr.toList 69 (heap_old Q2.out _) (InstV.arr noI) rfl 5 info_inst rfl (by decide) (InstV.one _) ?_))
            intro wA bA uA zA
            rw [spl_all (by rfl)] at bA
            go_wp2_with (fail)
            refine bodyPost_ret (results_cell_row rfl _ _ (zz.heap.size + 1) 69 (InstV.arr noI) _ _ rfl bA Tryz.underlying69 rfl info_inst) rfl ⟨by first | rfl | rw [HE.out], ?_⟩
            exact (UX.out.alloc _).then uA (fun x hx hlt => by simp at hx; omega)
  · go_wp2_with fail
    refine tree_same ⟨⟨_, ((Upd.refl _ _).drew).alloc _⟩, rfl⟩ ?_
    refine tree_one ?_
    simp only [opsAt, List.map_cons, List.map_nil, List.getElem?_toArray, List.getElem?_cons_zero, List.getElem?_cons_succ, Option.getD_some]
    repeat (go_big_quiet_step (fail))
    refine wpQuiet_nil ?_
    go_wp2_with fail
    refine (fImmI_calls w _ hw).mono ?_
    rintro e z1 ⟨rfl, k, rfl⟩
    go_wp2_with fail
    refine tree_same ⟨⟨_, Upd.drewN _ ((Upd.refl _ W).alloc _)⟩, rfl⟩ ?_
    refine tree_one ?_
    simp only [opsAt, List.map_cons, List.map_nil, List.getElem?_toArray, List.getElem?_cons_zero, List.getElem?_cons_succ, Option.getD_some]
    repeat (go_big_quiet_step (fail))
    refine wpQuiet_nil ?_
    rw [alloc_drewN]
    go_wp2_with fail
    refine tree_same ⟨⟨_, (Upd.drewN _ (Upd.refl _ _)).alloc _⟩, rfl⟩ ?_
    refine tree_done ?_
    simp only [opsAt, List.map_cons, List.map_nil, List.getElem?_toArray, List.getElem?_cons_zero, List.getElem?_cons_succ, Option.getD_some]
    repeat (go_big_quiet_step (fail))
    refine wpQuiet_nil ?_
    clear n1 n2 n3
    have Q1 : Hid ((W.drewN (1 + k)).heap[zz.heap.size]? = some (.cells (partsArr w code f3 f7 rd r1 r2) 144 (0, 0))) := P1
    have Q2 : Hid ((W.drewN (1 + k)).heap[zz.heap.size + 1]? = some (.cells noI.arr 69 (0, 0))) := P2
    have UX : Hid (Upd [] zz (W.drewN (1 + k))) := Lib.hid (U.out.drewN _)
    have hX : (W.drewN (1 + k)).heap.size = zz.heap.size + 2 := hS
    clear P1 P2 U
    generalize W.drewN (1 + k) = X at Q1 Q2 UX hX ⊢
    have c2 : ∀ o, (X.alloc o).cell? ⟨zz.heap.size, 2, none⟩ = some (.int .i64 (f3 : Int)) := fun o => by rw [cells_of (heap_old Q1.out o)]; rfl
    have c3 : ∀ o, (X.alloc o).cell? ⟨zz.heap.size, 3, none⟩ = some (.int .i64 (f7 : Int)) := fun o => by rw [cells_of (heap_old Q1.out o)]; rfl
    have c6 : ∀ o, (X.alloc o).cell? ⟨zz.heap.size, 6, none⟩ = some (.int .i64 (r2 : Int)) := fun o => by rw [cells_of (heap_old Q1.out o)]; rfl
    by_cases h1 : f3 ≠ 1 ∧ f3 ≠ 5
    · obtain ⟨g1, g5⟩ := h1
      have d1 : ((f3 : Int) != 1) = true := (cast_ne_b g1).2
      have d5 : ((f3 : Int) != 5) = true := (cast_ne_b g5).2
      have hx : ∀ w, (Instr.index 147 (.agg #[.int .i64 19, .int .i64 0, .int .i64 20, .int .i64 21, .int .i64 22, .int .i64 0, .int .i64 23, .int .i64 24]) (.int .i64 (f3 : Int))).run Tryz.prog w = .ok (.int .i64 ((nth [19, 0, 20, 21, 22, 0, 23, 24] f3 : Nat) : Int)) w := ix8 19 0 20 21 22 0 23 24 f3 h3
      have HE := Lib.hid (immP_reg w f3 f7 rd r1 r2 g1 g5)
      clear g1 g5
      go_wp2_with (fail)
      have R1 : Hid (∀ x : Near [zz.heap.size + 1] (X.alloc (.cells #[.int .i64 0, .int .i64 (rd : Int), .int .i64 (r1 : Int), .int .i64 0, .int .i32 (immI w)] 69)), x.1.rangeAt zz.heap.size 0 (partsArr w code f3 f7 rd r1 r2).toList) := Lib.hid fun x => row_range (x.2.keep (heap_old Q1.out _) (by simp))
      have R3 : Hid (∀ x : Near [zz.heap.size + 1] (X.alloc (.cells #[.int .i64 0, .int .i64 (rd : Int), .int .i64 (r1 : Int), .int .i64 0, .int .i32 (immI w)] 69)), x.1.rangeAt (zz.heap.size + 2) 0 (InstV.arr ⟨0, rd, r1, 0, immI w⟩).toList) := Lib.hid fun x => row_range (x.2.keep (by rw [← hX]; exact hl1 _ _) (by simp))
      have n2 : ∀ x : Near [zz.heap.size + 1] (X.alloc (.cells #[.int .i64 0, .int .i64 (rd : Int), .int .i64 (r1 : Int), .int .i64 0, .int .i32 (immI w)] 69)), x.1.cell? ⟨zz.heap.size, 2, none⟩ = some (.int .i64 (f3 : Int)) := fun x => by rw [cells_of (x.2.keep (heap_old Q1.out _) (by simp))]; rfl
      refine wp_region_plan (fun z => ∃ x : Near [zz.heap.size + 1] (X.alloc (.cells #[.int .i64 0, .int .i64 (rd : Int), .int .i64 (r1 : Int), .int .i64 0, .int .i32 (immI w)] 69)), z = x.1) [([0, 1, 2, 3, 4, 5], 6), ([], 7)] [] (by kernel_rfl) (by kernel_rfl) (by kernel_rfl) (by kernel_rfl) (fun _ d _ _ _ h => by cases d <;> exact h) ⟨⟨((X.alloc (.cells #[.int .i64 0, .int .i64 (rd : Int), .int .i64 (r1 : Int), .int .i64 0, .int .i32 (immI w)] 69))).drew, (Upd.refl _ _).drew⟩, rfl⟩ ?_
      refine plan_next ?_
      simp only [opsAt, List.map_cons, List.map_nil, List.getElem?_toArray, List.getElem?_cons_zero, List.getElem?_cons_succ, Option.getD_some]
      repeat (first
        | go_big_quiet_step (fail)
        | (refine Q_load 144 (.tmp 1) rfl (by kernel_rfl) _ _ rfl (partsArr w code f3 f7 rd r1 r2) (by rintro _ ⟨y, rfl⟩; exact R1.out y) Tryz.underlying144 rfl 7 info_parts rfl ?_; go_simp)
        | (refine Q_load 69 (.tmp 3) rfl (by kernel_rfl) _ _ rfl (InstV.arr ⟨0, rd, r1, 0, immI w⟩) (by rintro _ ⟨y, rfl⟩; exact R3.out y) Tryz.underlying69 rfl 5 info_inst rfl ?_; go_simp))
      refine wpQuiet_nil ?_
      refine plan_one rfl ?_
      go_wp2_with fail
      refine (with_calls w code f3 f7 rd r1 r2 (nth [19, 0, 20, 21, 22, 0, 23, 24] f3) ⟨0, rd, r1, 0, immI w⟩ _).mono ?_
      rintro e w3 ⟨rfl, u3⟩
      have V3 := Lib.hid (((Upd.refl [zz.heap.size + 1] _).drew).trans (u3.mono (T := [zz.heap.size + 1]) (by simp)))
      have R2 := Lib.hid (u3.keep (show (World.drew (X.alloc _)).heap[zz.heap.size + 1]? = _ from heap_old Q2.out _) (by simp))
      have U3 := Lib.hid (UX.out.trans ((((Upd.refl [] X).alloc _).drew).trans u3))
      have NR := Lib.hid (show (withI (nth [19, 0, 20, 21, 22, 0, 23, 24] f3) ⟨0, rd, r1, 0, immI w⟩).arr = (immP w f3 f7 rd r1 r2).arr by rw [HE.out])
      clear u3
      go_wp2_with fail
      refine plan_same ⟨⟨_, V3.out⟩, rfl⟩ ?_
      refine plan_next ?_
      simp only [opsAt, List.map_cons, List.map_nil, List.getElem?_toArray, List.getElem?_cons_zero, List.getElem?_cons_succ, Option.getD_some]
      repeat (go_big_quiet_step (fail))
      refine wpQuiet_nil ?_
      refine plan_one rfl ?_
      refine L_store_row 69 (.tmp 2) (.tmp 26) rfl (by kernel_rfl) (zz.heap.size + 1) 0 rfl noI.arr.toList 69 R2.out (withI (nth [19, 0, 20, 21, 22, 0, 23, 24] f3) ⟨0, rd, r1, 0, immI w⟩).arr rfl 5 info_inst rfl (by decide) (InstV.one _) ?_
      intro wA bA uA zA
      rw [spl_all (by rfl)] at bA
      refine plan_same ⟨⟨_, V3.out.trans uA⟩, rfl⟩ ?_
      refine plan_last ?_
      simp only [opsAt, List.map_cons, List.map_nil, List.getElem?_toArray, List.getElem?_cons_zero, List.getElem?_cons_succ, Option.getD_some]
      repeat (go_big_quiet_step (fail))
      refine wpQuiet_nil ?_
      unfold planEnd
      go_wp2_with fail
      refine bodyPost_ret (results_cell_row rfl _ _ (zz.heap.size + 1) 69 ((withI (nth [19, 0, 20, 21, 22, 0, 23, 24] f3) ⟨0, rd, r1, 0, immI w⟩).arr) _ _ rfl bA Tryz.underlying69 rfl info_inst) rfl ⟨by rw [NR.out], ?_⟩
      exact U3.out.then uA (fun x hx hlt => by simp at hx; omega)
    · have e2 : IntKind.i32.wrap (r2 : Int) = (r2 : Int) := by rw [IntKind.wrap_i32]; omega
      rcases (by omega : f3 = 1 ∨ f3 = 5) with rfl | rfl
      · by_cases h7 : f7 = 0
        · subst h7
          go_wp2_with (first
            | go_skip
            | ((with_reducible refine at_st 2 ?_); refine L_store_row 69 (.tmp 2) (.tmp 62) rfl (by kernel_rfl) (zz.heap.size + 1) 0 rfl noI.arr.toList 69 (heap_old Q2.out _) (InstV.arr ⟨25, rd, r1, 0, (r2 : Int)⟩) rfl 5 info_inst rfl (by decide) (InstV.one _) ?_))
          intro wA bA uA zA
          rw [spl_all (by rfl)] at bA
          go_wp2_with (fail)
          refine bodyPost_ret (results_cell_row rfl _ _ (zz.heap.size + 1) 69 (InstV.arr ⟨25, rd, r1, 0, (r2 : Int)⟩) _ _ rfl bA Tryz.underlying69 rfl info_inst) rfl ⟨by first | rfl | rw [HE.out], ?_⟩
          exact (UX.out.alloc _).then uA (fun x hx hlt => by simp at hx; omega)
        · have d7 : ((f7 : Int) == 0) = false := (cast_ne_b h7).1
          have HE := Lib.hid (show noI = immP w 1 f7 rd r1 r2 by unfold immP; simp [h7])
          clear h7
          go_wp2_with (first
            | go_skip
            | ((with_reducible refine at_st 2 ?_); refine L_store_row 69 (.tmp 2) (.tmp 31) rfl (by kernel_rfl) (zz.heap.size + 1) 0 rfl noI.arr.toList 69 (heap_old Q2.out _) (InstV.arr noI) rfl 5 info_inst rfl (by decide) (InstV.one _) ?_))
          intro wA bA uA zA
          rw [spl_all (by rfl)] at bA
          go_wp2_with (fail)
          refine bodyPost_ret (results_cell_row rfl _ _ (zz.heap.size + 1) 69 (InstV.arr noI) _ _ rfl bA Tryz.underlying69 rfl info_inst) rfl ⟨by first | rfl | rw [HE.out], ?_⟩
          exact (UX.out.alloc _).then uA (fun x hx hlt => by simp at hx; omega)
      · by_cases h7 : f7 = 0
        · subst h7
          go_wp2_with (first
            | go_skip
            | ((with_reducible refine at_st 2 ?_); refine L_store_row 69 (.tmp 2) (.tmp 62) rfl (by kernel_rfl) (zz.heap.size + 1) 0 rfl noI.arr.toList 69 (heap_old Q2.out _) (InstV.arr ⟨26, rd, r1, 0, (r2 : Int)⟩) rfl 5 info_inst rfl (by decide) (InstV.one _) ?_))
          intro wA bA uA zA
          rw [spl_all (by rfl)] at bA
          go_wp2_with (fail)
          refine bodyPost_ret (results_cell_row rfl _ _ (zz.heap.size + 1) 69 (InstV.arr ⟨26, rd, r1, 0, (r2 : Int)⟩) _ _ rfl bA Tryz.underlying69 rfl info_inst) rfl ⟨by first | rfl | rw [HE.out], ?_⟩
          exact (UX.out.alloc _).then uA (fun x hx hlt => by simp at hx; omega)
        · have d7 : ((f7 : Int) == 0) = false := (cast_ne_b h7).1
          by_cases h8 : f7 = 32
          · subst h8
            go_wp2_with (first
              | go_skip
              | ((with_reducible refine at_st 2 ?_); refine L_store_row 69 (.tmp 2) (.tmp 62) rfl (by kernel_rfl) (zz.heap.size + 1) 0 rfl noI.arr.toList 69 (heap_old Q2.out _) (InstV.arr ⟨27, rd, r1, 0, (r2 : Int)⟩) rfl 5 info_inst rfl (by decide) (InstV.one _) ?_))
            intro wA bA uA zA
            rw [spl_all (by rfl)] at bA
            go_wp2_with (fail)
            refine bodyPost_ret (results_cell_row rfl _ _ (zz.heap.size + 1) 69 (InstV.arr ⟨27, rd, r1, 0, (r2 : Int)⟩) _ _ rfl bA Tryz.underlying69 rfl info_inst) rfl ⟨by first | rfl | rw [HE.out], ?_⟩
            exact (UX.out.alloc _).then uA (fun x hx hlt => by simp at hx; omega)
          · have d8 : ((f7 : Int) == 32) = false := (cast_ne_b h8).1
            have HE := Lib.hid (show noI = immP w 5 f7 rd r1 r2 by unfold immP; simp [h7, h8])
            clear h7 h8
            go_wp2_with (first
              | go_skip
              | ((with_reducible refine at_st 2 ?_); refine L_store_row 69 (.tmp 2) (.tmp 31) rfl (by kernel_rfl) (zz.heap.size + 1) 0 rfl noI.arr.toList 69 (heap_old Q2.out _) (InstV.arr noI) rfl 5 info_inst rfl (by decide) (InstV.one _) ?_))
            intro wA bA uA zA
            rw [spl_all (by rfl)] at bA
            go_wp2_with (fail)
            refine bodyPost_ret (results_cell_row rfl _ _ (zz.heap.size + 1) 69 (InstV.arr noI) _ _ rfl bA Tryz.underlying69 rfl info_inst) rfl ⟨by first | rfl | rw [HE.out], ?_⟩
            exact (UX.out.alloc _).then uA (fun x hx hlt => by simp at hx; omega)
end Go.Proofs.YtmdjhahafjlebaaGreatDoor

namespace Go.Proofs.YtmdjhahafjlebaaGreatDoor
open Go.RowKit Go.Dio
set_option linter.unusedSimpArgs false
set_option linter.unusedVariables false

def decR (w code f3 f7 rd r1 r2 : Nat) : InstV := codeP w code f3 f7 rd r1 r2
theorem info_bool1 : (Tryz.prog.info? 4).map (·.size) = some 1 := by kernel_rfl
set_option maxRecDepth 20000 in
set_option maxHeartbeats 4000000 in
theorem decode_calls (w : Nat) (hw : w < 2 ^ 32) (zz : World) :
    Calls Tryz.prog 74 #[.int .u32 (w : Int)] zz fun e z' => e = .returned (.tuple #[.agg (decodeP w).arr, .bool (decide ((decodeP w).op ≠ 0))]) ∧ Upd [] zz z' := by
  have Q := apart_calls w hw
  have h3 : fb w 12 3 < 8 := fb_lt w 12 3
  have h2 : fb w 20 5 < 32 := fb_lt w 20 5
  unfold decodeP
  generalize fb w 0 7 = code at *
  generalize fb w 12 3 = f3 at *
  generalize fb w 25 7 = f7 at *
  generalize fb w 7 5 = rd at *
  generalize fb w 15 5 = r1 at *
  generalize fb w 20 5 = r2 at *
  have HQ := Lib.hid Q
  obtain ⟨D, hD⟩ : ∃ D, D = codeP w code f3 f7 rd r1 r2 := ⟨_, rfl⟩
  rw [← hD]
  have HD := Lib.hid hD
  clear Q hD
  go_enter Tryz.func74, Tryz.ntmps74
  go_wp2_with (fail)
  refine (HQ.out _).mono ?_
  rintro e z1 ⟨rfl, u1⟩
  have E2 := Lib.hid (u1.keep (show (World.alloc zz _).heap[zz.heap.size]? = _ from hl1 zz (.cells noI.arr 69)) (by simp))
  have U1 := Lib.hid (((Upd.refl [] zz).alloc _).trans u1)
  have hz1 : zz.heap.size < z1.heap.size := lt_of_block E2.out
  clear u1 HQ
  go_upto_region 3 with (first
    | go_skip
    | (refine L_store_new 144 (.tmp 4) (.tmp 7) rfl (by kernel_rfl) _ (partsArr w code f3 f7 rd r1 r2) rfl rfl 7 info_parts rfl rfl (by simp [partsArr, Value.oneCell']) ?_))
  have P4 := Lib.hid (heap_old (hl1 z1 (.cells (partsArr w code f3 f7 rd r1 r2) 144)) (.cells noI.arr 69))
  have P5 := Lib.hid (hl2 z1 (.cells (partsArr w code f3 f7 rd r1 r2) 144) (.cells noI.arr 69))
  have UW := Lib.hid ((U1.out.alloc (.cells (partsArr w code f3 f7 rd r1 r2) 144)).alloc (.cells noI.arr 69))
  have EW := Lib.hid (heap_old (heap_old E2.out (.cells (partsArr w code f3 f7 rd r1 r2) 144)) (.cells noI.arr 69))
  clear U1 E2
  change Code.wp _ _ _ _ ((z1.alloc (.cells (partsArr w code f3 f7 rd r1 r2) 144)).alloc (.cells noI.arr 69))
  generalize (z1.alloc (.cells (partsArr w code f3 f7 rd r1 r2) 144)).alloc (.cells noI.arr 69) = W at P4 P5 UW EW ⊢
  obtain ⟨b5, hb5⟩ : ∃ b5, b5 = z1.heap.size + 1 := ⟨_, rfl⟩
  rw [← hb5] at P5 ⊢
  obtain ⟨b4, hb4⟩ : ∃ b4, b4 = z1.heap.size := ⟨_, rfl⟩
  rw [← hb4] at P4 ⊢
  have h45 : b4 ≠ b5 := by omega
  have h25 : zz.heap.size ≠ b5 := by omega
  have hz5 : zz.heap.size ≤ b5 := by omega
  clear hb4 hb5 hz1
  have R1 := Lib.hid (fun x : Near [b5] W => row_range (x.2.keep P4.out (by simp [h45])))
  have n1 : ∀ x : Near [b5] W, x.1.cell? ⟨b4, 1, none⟩ = some (.int .i64 (code : Int)) := fun x => by rw [cells_of (x.2.keep P4.out (by simp [h45]))]; rfl
  have m1 : W.cell? ⟨b4, 1, none⟩ = some (.int .i64 (code : Int)) := n1 ⟨W, Upd.refl _ _⟩
  have n2 : ∀ x : Near [b5] W, x.1.cell? ⟨b4, 2, none⟩ = some (.int .i64 (f3 : Int)) := fun x => by rw [cells_of (x.2.keep P4.out (by simp [h45]))]; rfl
  have m2 : W.cell? ⟨b4, 2, none⟩ = some (.int .i64 (f3 : Int)) := n2 ⟨W, Upd.refl _ _⟩
  have n3 : ∀ x : Near [b5] W, x.1.cell? ⟨b4, 3, none⟩ = some (.int .i64 (f7 : Int)) := fun x => by rw [cells_of (x.2.keep P4.out (by simp [h45]))]; rfl
  have m3 : W.cell? ⟨b4, 3, none⟩ = some (.int .i64 (f7 : Int)) := n3 ⟨W, Upd.refl _ _⟩
  have n4 : ∀ x : Near [b5] W, x.1.cell? ⟨b4, 4, none⟩ = some (.int .i64 (rd : Int)) := fun x => by rw [cells_of (x.2.keep P4.out (by simp [h45]))]; rfl
  have m4 : W.cell? ⟨b4, 4, none⟩ = some (.int .i64 (rd : Int)) := n4 ⟨W, Upd.refl _ _⟩
  have n5 : ∀ x : Near [b5] W, x.1.cell? ⟨b4, 5, none⟩ = some (.int .i64 (r1 : Int)) := fun x => by rw [cells_of (x.2.keep P4.out (by simp [h45]))]; rfl
  have m5 : W.cell? ⟨b4, 5, none⟩ = some (.int .i64 (r1 : Int)) := n5 ⟨W, Upd.refl _ _⟩
  have n6 : ∀ x : Near [b5] W, x.1.cell? ⟨b4, 6, none⟩ = some (.int .i64 (r2 : Int)) := fun x => by rw [cells_of (x.2.keep P4.out (by simp [h45]))]; rfl
  have m6 : W.cell? ⟨b4, 6, none⟩ = some (.int .i64 (r2 : Int)) := n6 ⟨W, Upd.refl _ _⟩
  clear P4
  go_upto_block 0 with (fail)
  go_cut [9] (fun v9 wc => ∃ u, u = v9 ∧ Hid (wc.heap[b5]? = some (.cells D.arr 69 (0, 0))) ∧ Hid (Upd [b5] W wc))
  case first =>
    by_cases q55 : code = 55
    · subst q55
      obtain rfl : D = ⟨1, rd, 0, 0, immU w⟩ := HD.out
      go_wp2_with fail
      refine wp_region_plan (fun z => ∃ x : Near [b5] W, z = x.1) [([0, 1, 2], 3), ([4], 5)] [] (by kernel_rfl) (by kernel_rfl) (by kernel_rfl) (by kernel_rfl) (fun _ d _ _ _ h => by cases d <;> exact h) ⟨⟨(W).drew, (Upd.refl _ _).drew⟩, rfl⟩ ?_
      refine plan_next ?_
      simp only [opsAt, List.map_cons, List.map_nil, List.getElem?_toArray, List.getElem?_cons_zero, List.getElem?_cons_succ, Option.getD_some]
      repeat (first
        | go_big_quiet_step (fail)
        | (refine Q_load 144 (.tmp 4) rfl (by kernel_rfl) _ _ rfl (partsArr w 0 f3 f7 rd r1 r2) (by rintro _ ⟨y, rfl⟩; exact R1.out y) Tryz.underlying144 rfl 7 info_parts rfl ?_; go_simp))
      refine wpQuiet_nil ?_
      refine plan_one rfl ?_
      go_wp2_with fail
      refine (fImmU_calls w _ hw).mono ?_
      rintro e z1 ⟨rfl, m, rfl⟩
      have V3 : Hid (Upd [b5] W (W.drewN (1 + m))) := Lib.hid (Upd.drewN _ (Upd.refl _ _))
      have R2 : Hid ((W.drewN (1 + m)).heap[b5]? = some (.cells noI.arr 69 (0, 0))) := P5
      go_wp2_with fail
      refine plan_same ⟨⟨_, V3.out⟩, rfl⟩ ?_
      refine plan_next ?_
      simp only [opsAt, List.map_cons, List.map_nil, List.getElem?_toArray, List.getElem?_cons_zero, List.getElem?_cons_succ, Option.getD_some]
      repeat (go_big_quiet_step (fail))
      refine wpQuiet_nil ?_
      refine plan_one rfl ?_
      refine L_store_row 69 (.tmp 5) (.tmp 16) rfl (by kernel_rfl) b5 0 rfl noI.arr.toList 69 R2.out (InstV.arr ⟨1, rd, 0, 0, immU w⟩) rfl 5 info_inst rfl (by decide) (InstV.one _) ?_
      intro wA bA uA zA
      rw [spl_all (by rfl)] at bA
      refine plan_same ⟨⟨_, V3.out.trans uA⟩, rfl⟩ ?_
      refine plan_last ?_
      simp only [opsAt, List.map_cons, List.map_nil, List.getElem?_toArray, List.getElem?_cons_zero, List.getElem?_cons_succ, Option.getD_some]
      repeat (go_big_quiet_step (fail))
      refine wpQuiet_nil ?_
      unfold planEnd
      go_wp2_with fail
      have KA : Hid (Upd [b5] W wA) := Lib.hid (V3.out.trans uA)
      go_meet
      case rel => exact ⟨_, rfl, Lib.hid (by first | exact bA | (rw [bA]; rfl)), KA⟩
    have d55 : ((code : Int) == 55) = false := (cast_ne_b q55).1
    by_cases q23 : code = 23
    · subst q23
      obtain rfl : D = ⟨2, rd, 0, 0, immU w⟩ := HD.out
      go_wp2_with fail
      refine wp_region_plan (fun z => ∃ x : Near [b5] W, z = x.1) [([0, 1, 2], 3), ([4], 5)] [] (by kernel_rfl) (by kernel_rfl) (by kernel_rfl) (by kernel_rfl) (fun _ d _ _ _ h => by cases d <;> exact h) ⟨⟨(W).drew, (Upd.refl _ _).drew⟩, rfl⟩ ?_
      refine plan_next ?_
      simp only [opsAt, List.map_cons, List.map_nil, List.getElem?_toArray, List.getElem?_cons_zero, List.getElem?_cons_succ, Option.getD_some]
      repeat (first
        | go_big_quiet_step (fail)
        | (refine Q_load 144 (.tmp 4) rfl (by kernel_rfl) _ _ rfl (partsArr w 0 f3 f7 rd r1 r2) (by rintro _ ⟨y, rfl⟩; exact R1.out y) Tryz.underlying144 rfl 7 info_parts rfl ?_; go_simp))
      refine wpQuiet_nil ?_
      refine plan_one rfl ?_
      go_wp2_with fail
      refine (fImmU_calls w _ hw).mono ?_
      rintro e z1 ⟨rfl, m, rfl⟩
      have V3 : Hid (Upd [b5] W (W.drewN (1 + m))) := Lib.hid (Upd.drewN _ (Upd.refl _ _))
      have R2 : Hid ((W.drewN (1 + m)).heap[b5]? = some (.cells noI.arr 69 (0, 0))) := P5
      go_wp2_with fail
      refine plan_same ⟨⟨_, V3.out⟩, rfl⟩ ?_
      refine plan_next ?_
      simp only [opsAt, List.map_cons, List.map_nil, List.getElem?_toArray, List.getElem?_cons_zero, List.getElem?_cons_succ, Option.getD_some]
      repeat (go_big_quiet_step (fail))
      refine wpQuiet_nil ?_
      refine plan_one rfl ?_
      refine L_store_row 69 (.tmp 5) (.tmp 23) rfl (by kernel_rfl) b5 0 rfl noI.arr.toList 69 R2.out (InstV.arr ⟨2, rd, 0, 0, immU w⟩) rfl 5 info_inst rfl (by decide) (InstV.one _) ?_
      intro wA bA uA zA
      rw [spl_all (by rfl)] at bA
      refine plan_same ⟨⟨_, V3.out.trans uA⟩, rfl⟩ ?_
      refine plan_last ?_
      simp only [opsAt, List.map_cons, List.map_nil, List.getElem?_toArray, List.getElem?_cons_zero, List.getElem?_cons_succ, Option.getD_some]
      repeat (go_big_quiet_step (fail))
      refine wpQuiet_nil ?_
      unfold planEnd
      go_wp2_with fail
      have KA : Hid (Upd [b5] W wA) := Lib.hid (V3.out.trans uA)
      go_meet
      case rel => exact ⟨_, rfl, Lib.hid (by first | exact bA | (rw [bA]; rfl)), KA⟩
    have d23 : ((code : Int) == 23) = false := (cast_ne_b q23).1
    by_cases q111 : code = 111
    · subst q111
      obtain rfl : D = ⟨3, rd, 0, 0, immJ w⟩ := HD.out
      go_wp2_with fail
      refine wp_region_plan (fun z => ∃ x : Near [b5] W, z = x.1) [([0, 1, 2], 3), ([4], 5)] [] (by kernel_rfl) (by kernel_rfl) (by kernel_rfl) (by kernel_rfl) (fun _ d _ _ _ h => by cases d <;> exact h) ⟨⟨(W).drew, (Upd.refl _ _).drew⟩, rfl⟩ ?_
      refine plan_next ?_
      simp only [opsAt, List.map_cons, List.map_nil, List.getElem?_toArray, List.getElem?_cons_zero, List.getElem?_cons_succ, Option.getD_some]
      repeat (first
        | go_big_quiet_step (fail)
        | (refine Q_load 144 (.tmp 4) rfl (by kernel_rfl) _ _ rfl (partsArr w 0 f3 f7 rd r1 r2) (by rintro _ ⟨y, rfl⟩; exact R1.out y) Tryz.underlying144 rfl 7 info_parts rfl ?_; go_simp))
      refine wpQuiet_nil ?_
      refine plan_one rfl ?_
      go_wp2_with fail
      refine (fImmJ_calls w _ hw).mono ?_
      rintro e z1 ⟨rfl, m, rfl⟩
      have V3 : Hid (Upd [b5] W (W.drewN (1 + m))) := Lib.hid (Upd.drewN _ (Upd.refl _ _))
      have R2 : Hid ((W.drewN (1 + m)).heap[b5]? = some (.cells noI.arr 69 (0, 0))) := P5
      go_wp2_with fail
      refine plan_same ⟨⟨_, V3.out⟩, rfl⟩ ?_
      refine plan_next ?_
      simp only [opsAt, List.map_cons, List.map_nil, List.getElem?_toArray, List.getElem?_cons_zero, List.getElem?_cons_succ, Option.getD_some]
      repeat (go_big_quiet_step (fail))
      refine wpQuiet_nil ?_
      refine plan_one rfl ?_
      refine L_store_row 69 (.tmp 5) (.tmp 30) rfl (by kernel_rfl) b5 0 rfl noI.arr.toList 69 R2.out (InstV.arr ⟨3, rd, 0, 0, immJ w⟩) rfl 5 info_inst rfl (by decide) (InstV.one _) ?_
      intro wA bA uA zA
      rw [spl_all (by rfl)] at bA
      refine plan_same ⟨⟨_, V3.out.trans uA⟩, rfl⟩ ?_
      refine plan_last ?_
      simp only [opsAt, List.map_cons, List.map_nil, List.getElem?_toArray, List.getElem?_cons_zero, List.getElem?_cons_succ, Option.getD_some]
      repeat (go_big_quiet_step (fail))
      refine wpQuiet_nil ?_
      unfold planEnd
      go_wp2_with fail
      have KA : Hid (Upd [b5] W wA) := Lib.hid (V3.out.trans uA)
      go_meet
      case rel => exact ⟨_, rfl, Lib.hid (by first | exact bA | (rw [bA]; rfl)), KA⟩
    have d111 : ((code : Int) == 111) = false := (cast_ne_b q111).1
    by_cases q103 : code = 103
    · subst q103
      by_cases g : f3 = 0
      · subst g
        obtain rfl : D = ⟨4, rd, r1, 0, immI w⟩ := HD.out
        go_wp2_with fail
        refine wp_region_plan (fun z => ∃ x : Near [b5] W, z = x.1) [([0, 1, 2, 3, 4], 5), ([6], 7)] [] (by kernel_rfl) (by kernel_rfl) (by kernel_rfl) (by kernel_rfl) (fun _ d _ _ _ h => by cases d <;> exact h) ⟨⟨(W).drew, (Upd.refl _ _).drew⟩, rfl⟩ ?_
        refine plan_next ?_
        simp only [opsAt, List.map_cons, List.map_nil, List.getElem?_toArray, List.getElem?_cons_zero, List.getElem?_cons_succ, Option.getD_some]
        repeat (first
          | go_big_quiet_step (fail)
          | (refine Q_load 144 (.tmp 4) rfl (by kernel_rfl) _ _ rfl (partsArr w 0 f3 f7 rd r1 r2) (by rintro _ ⟨y, rfl⟩; exact R1.out y) Tryz.underlying144 rfl 7 info_parts rfl ?_; go_simp))
        refine wpQuiet_nil ?_
        refine plan_one rfl ?_
        go_wp2_with fail
        refine (fImmI_calls w _ hw).mono ?_
        rintro e z1 ⟨rfl, m, rfl⟩
        have V3 : Hid (Upd [b5] W (W.drewN (1 + m))) := Lib.hid (Upd.drewN _ (Upd.refl _ _))
        have R2 : Hid ((W.drewN (1 + m)).heap[b5]? = some (.cells noI.arr 69 (0, 0))) := P5
        go_wp2_with fail
        refine plan_same ⟨⟨_, V3.out⟩, rfl⟩ ?_
        refine plan_next ?_
        simp only [opsAt, List.map_cons, List.map_nil, List.getElem?_toArray, List.getElem?_cons_zero, List.getElem?_cons_succ, Option.getD_some]
        repeat (go_big_quiet_step (fail))
        refine wpQuiet_nil ?_
        refine plan_one rfl ?_
        refine L_store_row 69 (.tmp 5) (.tmp 42) rfl (by kernel_rfl) b5 0 rfl noI.arr.toList 69 R2.out (InstV.arr ⟨4, rd, r1, 0, immI w⟩) rfl 5 info_inst rfl (by decide) (InstV.one _) ?_
        intro wA bA uA zA
        rw [spl_all (by rfl)] at bA
        refine plan_same ⟨⟨_, V3.out.trans uA⟩, rfl⟩ ?_
        refine plan_last ?_
        simp only [opsAt, List.map_cons, List.map_nil, List.getElem?_toArray, List.getElem?_cons_zero, List.getElem?_cons_succ, Option.getD_some]
        repeat (go_big_quiet_step (fail))
        refine wpQuiet_nil ?_
        unfold planEnd
        go_wp2_with fail
        have KA : Hid (Upd [b5] W wA) := Lib.hid (V3.out.trans uA)
        go_meet
        case rel => exact ⟨_, rfl, Lib.hid (by first | exact bA | (rw [bA]; rfl)), KA⟩
      have g0 : ((f3 : Int) == 0) = false := (cast_ne_b g).1
      have HE : Hid (noI = D) := Lib.hid (by rw [HD.out]; simp [codeP, g])
      clear g
      go_wp2_with fail
      go_meet
      case rel => exact ⟨_, rfl, Lib.hid (by rw [P5.out, HE.out]), Lib.hid (Upd.refl _ _)⟩
    have d103 : ((code : Int) == 103) = false := (cast_ne_b q103).1
    by_cases q99 : code = 99
    · subst q99
      have hx : ∀ w, (Instr.index 147 (.agg #[.int .i64 5, .int .i64 6, .int .i64 0, .int .i64 0, .int .i64 7, .int .i64 8, .int .i64 9, .int .i64 10]) (.int .i64 (f3 : Int))).run Tryz.prog w = .ok (.int .i64 ((nth [5, 6, 0, 0, 7, 8, 9, 10] f3 : Nat) : Int)) w := ix8 5 6 0 0 7 8 9 10 f3 h3
      obtain rfl : D = withI (nth [5, 6, 0, 0, 7, 8, 9, 10] f3) ⟨0, 0, r1, r2, immB w⟩ := HD.out
      go_wp2_with fail
      refine wp_region_plan (fun z => ∃ x : Near [b5] W, z = x.1) [([0, 1, 2, 3, 4, 5, 6, 7, 8, 9], 10), ([11], 12), ([], 13)] [] (by kernel_rfl) (by kernel_rfl) (by kernel_rfl) (by kernel_rfl) (fun _ d _ _ _ h => by cases d <;> exact h) ⟨⟨(W).drew, (Upd.refl _ _).drew⟩, rfl⟩ ?_
      refine plan_next ?_
      simp only [opsAt, List.map_cons, List.map_nil, List.getElem?_toArray, List.getElem?_cons_zero, List.getElem?_cons_succ, Option.getD_some]
      repeat (first
        | go_big_quiet_step (fail)
        | (refine Q_load 144 (.tmp 4) rfl (by kernel_rfl) _ _ rfl (partsArr w 99 f3 f7 rd r1 r2) (by rintro _ ⟨y, rfl⟩; exact R1.out y) Tryz.underlying144 rfl 7 info_parts rfl ?_; go_simp))
      refine wpQuiet_nil ?_
      refine plan_one rfl ?_
      go_wp2_with fail
      refine (fImmB_calls w _ hw).mono ?_
      rintro e z1 ⟨rfl, m, rfl⟩
      have V3 : Hid (Upd [b5] W (W.drewN (1 + m))) := Lib.hid (Upd.drewN _ (Upd.refl _ _))
      have R2 : Hid ((W.drewN (1 + m)).heap[b5]? = some (.cells noI.arr 69 (0, 0))) := P5
      go_wp2_with fail
      refine plan_same ⟨⟨_, V3.out⟩, rfl⟩ ?_
      refine plan_next ?_
      simp only [opsAt, List.map_cons, List.map_nil, List.getElem?_toArray, List.getElem?_cons_zero, List.getElem?_cons_succ, Option.getD_some]
      repeat (go_big_quiet_step (fail))
      refine wpQuiet_nil ?_
      refine plan_one rfl ?_
      go_wp2_with fail
      refine (with_calls w 99 f3 f7 rd r1 r2 (nth [5, 6, 0, 0, 7, 8, 9, 10] f3) ⟨0, 0, r1, r2, immB w⟩ _).mono ?_
      rintro e w3 ⟨rfl, u3⟩
      have V4 := Lib.hid (V3.out.trans (u3.mono (T := [b5]) (by simp)))
      have R4 := Lib.hid (u3.keep R2.out (by simp))
      clear u3 R2 V3
      have R2 := R4
      have V3 := V4
      go_wp2_with fail
      refine plan_same ⟨⟨_, V3.out⟩, rfl⟩ ?_
      refine plan_next ?_
      simp only [opsAt, List.map_cons, List.map_nil, List.getElem?_toArray, List.getElem?_cons_zero, List.getElem?_cons_succ, Option.getD_some]
      repeat (go_big_quiet_step (fail))
      refine wpQuiet_nil ?_
      refine plan_one rfl ?_
      refine L_store_row 69 (.tmp 5) (.tmp 57) rfl (by kernel_rfl) b5 0 rfl noI.arr.toList 69 R2.out (InstV.arr (withI (nth [5, 6, 0, 0, 7, 8, 9, 10] f3) ⟨0, 0, r1, r2, immB w⟩)) rfl 5 info_inst rfl (by decide) (InstV.one _) ?_
      intro wA bA uA zA
      rw [spl_all (by rfl)] at bA
      refine plan_same ⟨⟨_, V3.out.trans uA⟩, rfl⟩ ?_
      refine plan_last ?_
      simp only [opsAt, List.map_cons, List.map_nil, List.getElem?_toArray, List.getElem?_cons_zero, List.getElem?_cons_succ, Option.getD_some]
      repeat (go_big_quiet_step (fail))
      refine wpQuiet_nil ?_
      unfold planEnd
      go_wp2_with fail
      have KA : Hid (Upd [b5] W wA) := Lib.hid (V3.out.trans uA)
      go_meet
      case rel => exact ⟨_, rfl, Lib.hid (by first | exact bA | (rw [bA]; rfl)), KA⟩
    have d99 : ((code : Int) == 99) = false := (cast_ne_b q99).1
    by_cases q3 : code = 3
    · subst q3
      have hx : ∀ w, (Instr.index 147 (.agg #[.int .i64 11, .int .i64 12, .int .i64 13, .int .i64 0, .int .i64 14, .int .i64 15, .int .i64 0, .int .i64 0]) (.int .i64 (f3 : Int))).run Tryz.prog w = .ok (.int .i64 ((nth [11, 12, 13, 0, 14, 15, 0, 0] f3 : Nat) : Int)) w := ix8 11 12 13 0 14 15 0 0 f3 h3
      obtain rfl : D = withI (nth [11, 12, 13, 0, 14, 15, 0, 0] f3) ⟨0, rd, r1, 0, immI w⟩ := HD.out
      go_wp2_with fail
      refine wp_region_plan (fun z => ∃ x : Near [b5] W, z = x.1) [([0, 1, 2, 3, 4, 5, 6, 7, 8, 9], 10), ([11], 12), ([], 13)] [] (by kernel_rfl) (by kernel_rfl) (by kernel_rfl) (by kernel_rfl) (fun _ d _ _ _ h => by cases d <;> exact h) ⟨⟨(W).drew, (Upd.refl _ _).drew⟩, rfl⟩ ?_
      refine plan_next ?_
      simp only [opsAt, List.map_cons, List.map_nil, List.getElem?_toArray, List.getElem?_cons_zero, List.getElem?_cons_succ, Option.getD_some]
      repeat (first
        | go_big_quiet_step (fail)
        | (refine Q_load 144 (.tmp 4) rfl (by kernel_rfl) _ _ rfl (partsArr w 3 f3 f7 rd r1 r2) (by rintro _ ⟨y, rfl⟩; exact R1.out y) Tryz.underlying144 rfl 7 info_parts rfl ?_; go_simp))
      refine wpQuiet_nil ?_
      refine plan_one rfl ?_
      go_wp2_with fail
      refine (fImmI_calls w _ hw).mono ?_
      rintro e z1 ⟨rfl, m, rfl⟩
      have V3 : Hid (Upd [b5] W (W.drewN (1 + m))) := Lib.hid (Upd.drewN _ (Upd.refl _ _))
      have R2 : Hid ((W.drewN (1 + m)).heap[b5]? = some (.cells noI.arr 69 (0, 0))) := P5
      go_wp2_with fail
      refine plan_same ⟨⟨_, V3.out⟩, rfl⟩ ?_
      refine plan_next ?_
      simp only [opsAt, List.map_cons, List.map_nil, List.getElem?_toArray, List.getElem?_cons_zero, List.getElem?_cons_succ, Option.getD_some]
      repeat (go_big_quiet_step (fail))
      refine wpQuiet_nil ?_
      refine plan_one rfl ?_
      go_wp2_with fail
      refine (with_calls w 3 f3 f7 rd r1 r2 (nth [11, 12, 13, 0, 14, 15, 0, 0] f3) ⟨0, rd, r1, 0, immI w⟩ _).mono ?_
      rintro e w3 ⟨rfl, u3⟩
      have V4 := Lib.hid (V3.out.trans (u3.mono (T := [b5]) (by simp)))
      have R4 := Lib.hid (u3.keep R2.out (by simp))
      clear u3 R2 V3
      have R2 := R4
      have V3 := V4
      go_wp2_with fail
      refine plan_same ⟨⟨_, V3.out⟩, rfl⟩ ?_
      refine plan_next ?_
      simp only [opsAt, List.map_cons, List.map_nil, List.getElem?_toArray, List.getElem?_cons_zero, List.getElem?_cons_succ, Option.getD_some]
      repeat (go_big_quiet_step (fail))
      refine wpQuiet_nil ?_
      refine plan_one rfl ?_
      refine L_store_row 69 (.tmp 5) (.tmp 72) rfl (by kernel_rfl) b5 0 rfl noI.arr.toList 69 R2.out (InstV.arr (withI (nth [11, 12, 13, 0, 14, 15, 0, 0] f3) ⟨0, rd, r1, 0, immI w⟩)) rfl 5 info_inst rfl (by decide) (InstV.one _) ?_
      intro wA bA uA zA
      rw [spl_all (by rfl)] at bA
      refine plan_same ⟨⟨_, V3.out.trans uA⟩, rfl⟩ ?_
      refine plan_last ?_
      simp only [opsAt, List.map_cons, List.map_nil, List.getElem?_toArray, List.getElem?_cons_zero, List.getElem?_cons_succ, Option.getD_some]
      repeat (go_big_quiet_step (fail))
      refine wpQuiet_nil ?_
      unfold planEnd
      go_wp2_with fail
      have KA : Hid (Upd [b5] W wA) := Lib.hid (V3.out.trans uA)
      go_meet
      case rel => exact ⟨_, rfl, Lib.hid (by first | exact bA | (rw [bA]; rfl)), KA⟩
    have d3 : ((code : Int) == 3) = false := (cast_ne_b q3).1
    by_cases q35 : code = 35
    · subst q35
      have hx : ∀ w, (Instr.index 147 (.agg #[.int .i64 16, .int .i64 17, .int .i64 18, .int .i64 0, .int .i64 0, .int .i64 0, .int .i64 0, .int .i64 0]) (.int .i64 (f3 : Int))).run Tryz.prog w = .ok (.int .i64 ((nth [16, 17, 18, 0, 0, 0, 0, 0] f3 : Nat) : Int)) w := ix8 16 17 18 0 0 0 0 0 f3 h3
      obtain rfl : D = withI (nth [16, 17, 18, 0, 0, 0, 0, 0] f3) ⟨0, 0, r1, r2, immS w⟩ := HD.out
      go_wp2_with fail
      refine wp_region_plan (fun z => ∃ x : Near [b5] W, z = x.1) [([0, 1, 2, 3, 4, 5, 6, 7, 8, 9], 10), ([11], 12), ([], 13)] [] (by kernel_rfl) (by kernel_rfl) (by kernel_rfl) (by kernel_rfl) (fun _ d _ _ _ h => by cases d <;> exact h) ⟨⟨(W).drew, (Upd.refl _ _).drew⟩, rfl⟩ ?_
      refine plan_next ?_
      simp only [opsAt, List.map_cons, List.map_nil, List.getElem?_toArray, List.getElem?_cons_zero, List.getElem?_cons_succ, Option.getD_some]
      repeat (first
        | go_big_quiet_step (fail)
        | (refine Q_load 144 (.tmp 4) rfl (by kernel_rfl) _ _ rfl (partsArr w 35 f3 f7 rd r1 r2) (by rintro _ ⟨y, rfl⟩; exact R1.out y) Tryz.underlying144 rfl 7 info_parts rfl ?_; go_simp))
      refine wpQuiet_nil ?_
      refine plan_one rfl ?_
      go_wp2_with fail
      refine (fImmS_calls w _ hw).mono ?_
      rintro e z1 ⟨rfl, m, rfl⟩
      have V3 : Hid (Upd [b5] W (W.drewN (1 + m))) := Lib.hid (Upd.drewN _ (Upd.refl _ _))
      have R2 : Hid ((W.drewN (1 + m)).heap[b5]? = some (.cells noI.arr 69 (0, 0))) := P5
      go_wp2_with fail
      refine plan_same ⟨⟨_, V3.out⟩, rfl⟩ ?_
      refine plan_next ?_
      simp only [opsAt, List.map_cons, List.map_nil, List.getElem?_toArray, List.getElem?_cons_zero, List.getElem?_cons_succ, Option.getD_some]
      repeat (go_big_quiet_step (fail))
      refine wpQuiet_nil ?_
      refine plan_one rfl ?_
      go_wp2_with fail
      refine (with_calls w 35 f3 f7 rd r1 r2 (nth [16, 17, 18, 0, 0, 0, 0, 0] f3) ⟨0, 0, r1, r2, immS w⟩ _).mono ?_
      rintro e w3 ⟨rfl, u3⟩
      have V4 := Lib.hid (V3.out.trans (u3.mono (T := [b5]) (by simp)))
      have R4 := Lib.hid (u3.keep R2.out (by simp))
      clear u3 R2 V3
      have R2 := R4
      have V3 := V4
      go_wp2_with fail
      refine plan_same ⟨⟨_, V3.out⟩, rfl⟩ ?_
      refine plan_next ?_
      simp only [opsAt, List.map_cons, List.map_nil, List.getElem?_toArray, List.getElem?_cons_zero, List.getElem?_cons_succ, Option.getD_some]
      repeat (go_big_quiet_step (fail))
      refine wpQuiet_nil ?_
      refine plan_one rfl ?_
      refine L_store_row 69 (.tmp 5) (.tmp 87) rfl (by kernel_rfl) b5 0 rfl noI.arr.toList 69 R2.out (InstV.arr (withI (nth [16, 17, 18, 0, 0, 0, 0, 0] f3) ⟨0, 0, r1, r2, immS w⟩)) rfl 5 info_inst rfl (by decide) (InstV.one _) ?_
      intro wA bA uA zA
      rw [spl_all (by rfl)] at bA
      refine plan_same ⟨⟨_, V3.out.trans uA⟩, rfl⟩ ?_
      refine plan_last ?_
      simp only [opsAt, List.map_cons, List.map_nil, List.getElem?_toArray, List.getElem?_cons_zero, List.getElem?_cons_succ, Option.getD_some]
      repeat (go_big_quiet_step (fail))
      refine wpQuiet_nil ?_
      unfold planEnd
      go_wp2_with fail
      have KA : Hid (Upd [b5] W wA) := Lib.hid (V3.out.trans uA)
      go_meet
      case rel => exact ⟨_, rfl, Lib.hid (by first | exact bA | (rw [bA]; rfl)), KA⟩
    have d35 : ((code : Int) == 35) = false := (cast_ne_b q35).1
    by_cases q19 : code = 19
    · subst q19
      obtain rfl : D = immP w f3 f7 rd r1 r2 := HD.out
      go_wp2_with (first
        | go_skip
        | (refine L_load 144 (.tmp 4) rfl (by kernel_rfl) _ _ rfl (partsArr w 19 f3 f7 rd r1 r2) (R1.out ⟨W, Upd.refl _ _⟩) Tryz.underlying144 rfl 7 info_parts rfl ?_))
      refine (immediate_calls w 19 f3 f7 rd r1 r2 hw h3 h2 _).mono ?_
      rintro e w3 ⟨rfl, u3⟩
      have V3 := Lib.hid (u3.mono (T := [b5]) (by simp))
      have R2 := Lib.hid (u3.keep P5.out (by simp))
      clear u3
      go_wp2_with (first
        | go_skip
        | ((with_reducible refine at_st 5 ?_); refine L_store_row 69 (.tmp 5) _ rfl (by kernel_rfl) b5 0 rfl noI.arr.toList 69 R2.out (InstV.arr (immP w f3 f7 rd r1 r2)) rfl 5 info_inst rfl (by decide) (InstV.one _) ?_))
      intro wA bA uA zA
      rw [spl_all (by rfl)] at bA
      have KA : Hid (Upd [b5] W wA) := Lib.hid (V3.out.trans uA)
      go_wp2_with fail
      go_meet
      case rel => exact ⟨_, rfl, Lib.hid (by first | exact bA | (rw [bA]; rfl)), KA⟩
    have d19 : ((code : Int) == 19) = false := (cast_ne_b q19).1
    by_cases q51 : code = 51
    · subst q51
      obtain rfl : D = withI (opR f7 f3) ⟨0, rd, r1, r2, 0⟩ := HD.out
      go_wp2_with fail
      refine wp_region_plan (fun z => ∃ x : Near [b5] W, z = x.1) [([0, 1, 3, 4, 5, 6, 7, 8, 9], 2), ([], 10), ([], 11)] [] (by kernel_rfl) (by kernel_rfl) (by kernel_rfl) (by kernel_rfl) (fun _ d _ _ _ h => by cases d <;> exact h) ⟨⟨(W).drew, (Upd.refl _ _).drew⟩, rfl⟩ ?_
      refine plan_next ?_
      simp only [opsAt, List.map_cons, List.map_nil, List.getElem?_toArray, List.getElem?_cons_zero, List.getElem?_cons_succ, Option.getD_some]
      repeat (first
        | go_big_quiet_step (fail)
        | (refine Q_load 144 (.tmp 4) rfl (by kernel_rfl) _ _ rfl (partsArr w 51 f3 f7 rd r1 r2) (by rintro _ ⟨y, rfl⟩; exact R1.out y) Tryz.underlying144 rfl 7 info_parts rfl ?_; go_simp))
      refine wpQuiet_nil ?_
      refine plan_one rfl ?_
      go_wp2_with fail
      refine (register_calls w 51 f3 f7 rd r1 r2 h3 _).mono ?_
      rintro e w2 ⟨rfl, u2⟩
      have V3 := Lib.hid (((Upd.refl [b5] W).drew).trans (u2.mono (T := [b5]) (by simp)))
      have R2 := Lib.hid (u2.keep (show (World.drew W).heap[b5]? = _ from P5.out) (by simp))
      clear u2
      go_wp2_with fail
      refine plan_same ⟨⟨_, V3.out⟩, rfl⟩ ?_
      refine plan_next ?_
      simp only [opsAt, List.map_cons, List.map_nil, List.getElem?_toArray, List.getElem?_cons_zero, List.getElem?_cons_succ, Option.getD_some]
      repeat (go_big_quiet_step (fail))
      refine wpQuiet_nil ?_
      refine plan_one rfl ?_
      go_wp2_with fail
      refine (with_calls w 51 f3 f7 rd r1 r2 (opR f7 f3) ⟨0, rd, r1, r2, 0⟩ _).mono ?_
      rintro e w3 ⟨rfl, u3⟩
      have V4 := Lib.hid (V3.out.trans (u3.mono (T := [b5]) (by simp)))
      have R4 := Lib.hid (u3.keep R2.out (by simp))
      clear u3 R2 V3
      have R2 := R4
      have V3 := V4
      go_wp2_with fail
      refine plan_same ⟨⟨_, V3.out⟩, rfl⟩ ?_
      refine plan_next ?_
      simp only [opsAt, List.map_cons, List.map_nil, List.getElem?_toArray, List.getElem?_cons_zero, List.getElem?_cons_succ, Option.getD_some]
      repeat (go_big_quiet_step (fail))
      refine wpQuiet_nil ?_
      refine plan_one rfl ?_
      refine L_store_row 69 (.tmp 5) (.tmp 104) rfl (by kernel_rfl) b5 0 rfl noI.arr.toList 69 R2.out (InstV.arr (withI (opR f7 f3) ⟨0, rd, r1, r2, 0⟩)) rfl 5 info_inst rfl (by decide) (InstV.one _) ?_
      intro wA bA uA zA
      rw [spl_all (by rfl)] at bA
      refine plan_same ⟨⟨_, V3.out.trans uA⟩, rfl⟩ ?_
      refine plan_last ?_
      simp only [opsAt, List.map_cons, List.map_nil, List.getElem?_toArray, List.getElem?_cons_zero, List.getElem?_cons_succ, Option.getD_some]
      repeat (go_big_quiet_step (fail))
      refine wpQuiet_nil ?_
      unfold planEnd
      go_wp2_with fail
      have KA : Hid (Upd [b5] W wA) := Lib.hid (V3.out.trans uA)
      go_meet
      case rel => exact ⟨_, rfl, Lib.hid (by first | exact bA | (rw [bA]; rfl)), KA⟩
    have d51 : ((code : Int) == 51) = false := (cast_ne_b q51).1
    by_cases q15 : code = 15
    · subst q15
      by_cases g : f3 = 0
      · subst g
        obtain rfl : D = ⟨46, 0, 0, 0, 0⟩ := HD.out
        go_wp2_with (first
          | go_skip
          | ((with_reducible refine at_st 110 ?_); refine L_store_int 3 (.tmp 110) _ rfl (by kernel_rfl) b5 0 rfl noI.arr.toList 69 P5.out .i64 46 rfl info_int1 (by decide) ?_))
        intro wA bA uA zA
        go_wp2_with fail
        have KA : Hid (Upd [b5] W wA) := Lib.hid uA
        go_meet
        case rel => exact ⟨_, rfl, Lib.hid (by first | exact bA | (rw [bA]; rfl)), KA⟩
      have g0 : ((f3 : Int) == 0) = false := (cast_ne_b g).1
      have HE : Hid (noI = D) := Lib.hid (by rw [HD.out]; simp [codeP, g])
      clear g
      go_wp2_with fail
      go_meet
      case rel => exact ⟨_, rfl, Lib.hid (by rw [P5.out, HE.out]), Lib.hid (Upd.refl _ _)⟩
    have d15 : ((code : Int) == 15) = false := (cast_ne_b q15).1
    by_cases q115 : code = 115
    · subst q115
      obtain rfl : D = sysP w f3 rd r1 := HD.out
      go_wp2_with (first
        | go_skip
        | (refine L_load 144 (.tmp 4) rfl (by kernel_rfl) _ _ rfl (partsArr w 115 f3 f7 rd r1 r2) (R1.out ⟨W, Upd.refl _ _⟩) Tryz.underlying144 rfl 7 info_parts rfl ?_))
      refine (system_calls w 115 f3 f7 rd r1 r2 hw h3 _).mono ?_
      rintro e w3 ⟨rfl, u3⟩
      have V3 := Lib.hid (u3.mono (T := [b5]) (by simp))
      have R2 := Lib.hid (u3.keep P5.out (by simp))
      clear u3
      go_wp2_with (first
        | go_skip
        | ((with_reducible refine at_st 5 ?_); refine L_store_row 69 (.tmp 5) _ rfl (by kernel_rfl) b5 0 rfl noI.arr.toList 69 R2.out (InstV.arr (sysP w f3 rd r1)) rfl 5 info_inst rfl (by decide) (InstV.one _) ?_))
      intro wA bA uA zA
      rw [spl_all (by rfl)] at bA
      have KA : Hid (Upd [b5] W wA) := Lib.hid (V3.out.trans uA)
      go_wp2_with fail
      go_meet
      case rel => exact ⟨_, rfl, Lib.hid (by first | exact bA | (rw [bA]; rfl)), KA⟩
    have d115 : ((code : Int) == 115) = false := (cast_ne_b q115).1
    have HE : Hid (noI = D) := Lib.hid (by rw [HD.out]; simp [codeP, *])
    go_wp2_with fail
    go_meet
    case rel => exact ⟨_, rfl, Lib.hid (by rw [P5.out, HE.out]), Lib.hid (Upd.refl _ _)⟩
  case rest =>
    obtain ⟨u, rfl, H5, HU⟩ := hcut
    clear m1 m2 m3 m4 m5 m6 n1 n2 n3 n4 n5 n6 R1 P5 HD
    have K2 := Lib.hid (HU.out.keep EW.out (by simp [h25]))
    have UC := Lib.hid (UW.out.then HU.out (fun x hx hlt => by simp at hx; omega))
    clear HU UW EW
    have S1 := Lib.hid (fun x : Near [zz.heap.size] wc => row_range (x.2.keep H5.out (by simp; omega)))
    have n0 : ∀ x : Near [zz.heap.size] wc, x.1.cell? ⟨b5, 0, none⟩ = some (.int .i64 (D.op : Int)) := fun x => by rw [cells_of (x.2.keep H5.out (by simp; omega))]; rfl
    have hB : ((D.op : Int) != 0) = decide (D.op ≠ 0) := by by_cases h : D.op = 0 <;> simp [h]
    have hO := InstV.one D
    generalize hA : D.arr = A at S1 hO ⊢
    generalize ho : D.op = o at n0 hB ⊢
    generalize hdd : decide (o ≠ 0) = dd at hB ⊢
    have HA := Lib.hid hA
    have HO := Lib.hid ho
    have HDD := Lib.hid hdd
    clear ho hdd
    have hs : A.size = 5 := by rw [← hA]; rfl
    clear hA
    go_wp2_with (fail)
    refine wp_region_plan (fun z => ∃ x : Near [zz.heap.size] wc, z = x.1) [([0, 1, 2, 3], 4)] [5] (by kernel_rfl) (by kernel_rfl) (by kernel_rfl) (by kernel_rfl) (fun _ d _ _ _ h => by cases d <;> exact h) ⟨⟨(wc).drew, (Upd.refl _ _).drew⟩, rfl⟩ ?_
    refine plan_next ?_
    simp only [opsAt, List.map_cons, List.map_nil, List.getElem?_toArray, List.getElem?_cons_zero, List.getElem?_cons_succ, Option.getD_some]
    repeat (first
      | go_big_quiet_step (fail)
      | (refine Q_load 69 (.tmp 5) rfl (by kernel_rfl) _ _ rfl A (by rintro _ ⟨y, rfl⟩; exact S1.out y) Tryz.underlying69 rfl 5 info_inst hs ?_; go_simp))
    refine wpQuiet_nil ?_
    refine plan_one rfl ?_
    refine L_store_row 69 (.tmp 2) (.tmp 115) rfl (by kernel_rfl) zz.heap.size 0 rfl noI.arr.toList 69 (show (World.drew wc).heap[zz.heap.size]? = _ from K2.out) A rfl 5 info_inst hs (by decide) hO ?_
    intro wA bA uA zA
    rw [spl_all (by rw [Array.length_toList, hs]; rfl)] at bA
    refine plan_same ⟨⟨_, ((Upd.refl _ _).drew).trans uA⟩, rfl⟩ ?_
    refine plan_last ?_
    simp only [opsAt, List.map_cons, List.map_nil, List.getElem?_toArray, List.getElem?_cons_zero, List.getElem?_cons_succ, Option.getD_some]
    go_simp
    repeat (go_big_quiet_step (fail))
    refine wpQuiet_nil ?_
    unfold planEnd
    go_wp2_with fail
    refine bodyPost_ret (results_row_tmp rfl _ _ zz.heap.size 69 A _ _ _ rfl rfl bA Tryz.underlying69 rfl (by rw [hs]; exact info_inst)) rfl ⟨by rw [HA.out, HO.out, HDD.out]; rfl, ?_⟩
    exact (UC.out.drew).then uA (fun x hx hlt => by simp at hx; omega)
end Go.Proofs.YtmdjhahafjlebaaGreatDoor
