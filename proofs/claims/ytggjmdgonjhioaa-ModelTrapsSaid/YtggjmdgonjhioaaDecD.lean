/- The code's decoding: what the machine alone does. -/
import Derived.Test.YtggjmdgonjhioaaDecA
namespace Go.Proofs.Ytggjmdgonjhioaa
open Go.RowKit Go.Dio
set_option linter.unusedSimpArgs false
set_option linter.unusedVariables false

theorem sysP_1 (w f3 rd r1 : Nat) (h1 : w ≠ 115) (h2 : w ≠ 1048691) (h3 : w ≠ 807403635) : sysP w f3 rd r1 = withI (nth [0, 50, 51, 52, 0, 53, 54, 55] f3) ⟨0, rd, r1, 0, ((fb w 20 12 : Nat) : Int)⟩ := by
  unfold sysP; rw [if_neg h1, if_neg h2, if_neg h3]; rfl
set_option maxRecDepth 20000 in
set_option maxHeartbeats 2000000 in
theorem system_calls (w code f3 f7 rd r1 r2 : Nat) (hw : w < 2 ^ 32) (h3 : f3 < 8) (zz : World) :
    Calls Try.prog 71 #[.agg (partsArr w code f3 f7 rd r1 r2)] zz fun e z' => e = .returned (.agg (sysP w f3 rd r1).arr) ∧ Upd [] zz z' := by
  by_cases w1 : w = 115
  · subst w1
    unfold partsArr
    go_enter Try.func71, Try.ntmps71
    go_wp2_with (fail)
    go_wp2_with (fail)
    refine bodyPost_ret (results_cell_row rfl _ _ (zz.heap.size + 1) 65 (InstV.arr ⟨47, 0, 0, 0, 0⟩) _ _ rfl (hl2 _ _ _) Try.underlying65 rfl info_inst) rfl ⟨rfl, ?_⟩
    repeat (first | exact Upd.refl _ _ | refine Upd.alloc ?_ _ | refine Upd.drewN _ ?_ | refine Upd.drew ?_)
  by_cases w2 : w = 1048691
  · subst w2
    unfold partsArr
    go_enter Try.func71, Try.ntmps71
    go_wp2_with (fail)
    go_wp2_with (fail)
    refine bodyPost_ret (results_cell_row rfl _ _ (zz.heap.size + 1) 65 (InstV.arr ⟨48, 0, 0, 0, 0⟩) _ _ rfl (hl2 _ _ _) Try.underlying65 rfl info_inst) rfl ⟨rfl, ?_⟩
    repeat (first | exact Upd.refl _ _ | refine Upd.alloc ?_ _ | refine Upd.drewN _ ?_ | refine Upd.drew ?_)
  by_cases w3 : w = 807403635
  · subst w3
    unfold partsArr
    go_enter Try.func71, Try.ntmps71
    go_wp2_with (fail)
    go_wp2_with (fail)
    refine bodyPost_ret (results_cell_row rfl _ _ (zz.heap.size + 1) 65 (InstV.arr ⟨49, 0, 0, 0, 0⟩) _ _ rfl (hl2 _ _ _) Try.underlying65 rfl info_inst) rfl ⟨rfl, ?_⟩
    repeat (first | exact Upd.refl _ _ | refine Upd.alloc ?_ _ | refine Upd.drewN _ ?_ | refine Upd.drew ?_)
  have d1 : ((w : Int) == 115) = false := (cast_ne_b w1).1
  have d2 : ((w : Int) == 1048691) = false := (cast_ne_b w2).1
  have d3 : ((w : Int) == 807403635) = false := (cast_ne_b w3).1
  have HE := Lib.hid (sysP_1 w f3 rd r1 w1 w2 w3)
  clear w1 w2 w3
  have hx : ∀ w, (Instr.index 102 (.agg #[.int .i64 0, .int .i64 50, .int .i64 51, .int .i64 52, .int .i64 0, .int .i64 53, .int .i64 54, .int .i64 55]) (.int .i64 (f3 : Int))).run Try.prog w = .ok (.int .i64 ((nth [0, 50, 51, 52, 0, 53, 54, 55] f3 : Nat) : Int)) w := ix8 0 50 51 52 0 53 54 55 f3 h3
  have hf := fb_lt w 20 12
  have p1 : IntKind.i32.wrap (fb w 20 12 : Int) = (fb w 20 12 : Int) := by rw [IntKind.wrap_i32]; omega
  unfold partsArr
  go_enter Try.func71, Try.ntmps71
  go_wp2_with (fail)
  generalize hW : World.alloc (World.alloc zz _) _ = W
  have B1 : W.heap[zz.heap.size]? = some (.cells (partsArr w code f3 f7 rd r1 r2) 99 (0, 0)) := by rw [← hW]; exact heap_old (hl1 _ _) _
  have B2 : W.heap[zz.heap.size + 1]? = some (.cells noI.arr 65 (0, 0)) := by rw [← hW]; exact hl2 _ _ _
  have U : Hid (Upd [] zz W) := Lib.hid (by rw [← hW]; exact ((Upd.refl _ _).alloc _).alloc _)
  clear hW
  have R1 := Lib.hid (fun x : Near [zz.heap.size + 1] W => row_range (x.2.keep B1 (by simp)))
  have n1 : ∀ x : Near [zz.heap.size + 1] W, x.1.cell? ⟨zz.heap.size, 2, none⟩ = some (.int .i64 (f3 : Int)) := fun x => by rw [cells_of (x.2.keep B1 (by simp))]; rfl
  have n2 : ∀ x : Near [zz.heap.size + 1] W, x.1.cell? ⟨zz.heap.size, 4, none⟩ = some (.int .i64 (rd : Int)) := fun x => by rw [cells_of (x.2.keep B1 (by simp))]; rfl
  have n3 : ∀ x : Near [zz.heap.size + 1] W, x.1.cell? ⟨zz.heap.size, 5, none⟩ = some (.int .i64 (r1 : Int)) := fun x => by rw [cells_of (x.2.keep B1 (by simp))]; rfl
  have n4 : ∀ x : Near [zz.heap.size + 1] W, x.1.cell? ⟨zz.heap.size, 0, none⟩ = some (.int .u32 (w : Int)) := fun x => by rw [cells_of (x.2.keep B1 (by simp))]; rfl
  have P2 := Lib.hid B2
  clear B1 B2
  refine wp_region_plan (fun z => ∃ x : Near [zz.heap.size + 1] W, z = x.1) [([0, 1, 2, 3, 4, 5, 6, 7, 8, 9, 10], 11), ([12, 13], 14), ([], 15)] [] (by kernel_rfl) (by kernel_rfl) (by kernel_rfl) (by kernel_rfl) (fun _ d _ _ _ h => by cases d <;> exact h) ⟨⟨(W).drew, (Upd.refl _ _).drew⟩, rfl⟩ ?_
  refine plan_next ?_
  simp only [opsAt, List.map_cons, List.map_nil, List.getElem?_toArray, List.getElem?_cons_zero, List.getElem?_cons_succ, Option.getD_some]
  repeat (first
    | go_big_quiet_step (fail)
    | (refine Q_load 99 (.tmp 1) rfl (by kernel_rfl) _ _ rfl (partsArr w code f3 f7 rd r1 r2) (by rintro _ ⟨y, rfl⟩; exact R1.out y) Try.underlying99 rfl 7 info_parts rfl ?_; go_simp))
  refine wpQuiet_nil ?_
  refine plan_one rfl ?_
  go_wp2_with fail
  refine (fBits_calls w 20 12 _ hw (by decide) (by decide) (by decide)).mono ?_
  rintro e z1 ⟨rfl, m, rfl⟩
  go_wp2_with fail
  refine plan_same ⟨⟨_, Upd.drewN _ (Upd.refl _ _)⟩, rfl⟩ ?_
  refine plan_next ?_
  simp only [opsAt, List.map_cons, List.map_nil, List.getElem?_toArray, List.getElem?_cons_zero, List.getElem?_cons_succ, Option.getD_some]
  repeat (go_big_quiet_step (fail))
  refine wpQuiet_nil ?_
  refine plan_one rfl ?_
  go_wp2_with fail
  refine (with_calls w code f3 f7 rd r1 r2 (nth [0, 50, 51, 52, 0, 53, 54, 55] f3) ⟨0, rd, r1, 0, ((fb w 20 12 : Nat) : Int)⟩ _).mono ?_
  rintro e w3 ⟨rfl, u3⟩
  have V3 := Lib.hid ((Upd.drewN (1 + m) (Upd.refl [zz.heap.size + 1] W)).trans (u3.mono (T := [zz.heap.size + 1]) (by simp)))
  have R2 := Lib.hid (u3.keep (show (World.drewN W (1 + m)).heap[zz.heap.size + 1]? = _ from P2.out) (by simp))
  have U3 := Lib.hid ((U.out.drewN (1 + m)).trans u3)
  clear u3 U
  go_wp2_with fail
  refine plan_same ⟨⟨_, V3.out⟩, rfl⟩ ?_
  refine plan_next ?_
  simp only [opsAt, List.map_cons, List.map_nil, List.getElem?_toArray, List.getElem?_cons_zero, List.getElem?_cons_succ, Option.getD_some]
  repeat (go_big_quiet_step (fail))
  refine wpQuiet_nil ?_
  refine plan_one rfl ?_
  refine L_store_row 65 (.tmp 2) (.tmp 28) rfl (by kernel_rfl) (zz.heap.size + 1) 0 rfl noI.arr.toList 65 R2.out (withI (nth [0, 50, 51, 52, 0, 53, 54, 55] f3) ⟨0, rd, r1, 0, ((fb w 20 12 : Nat) : Int)⟩).arr rfl 5 info_inst rfl (by decide) (InstV.one _) ?_
  intro wA bA uA zA
  rw [spl_all (by rfl)] at bA
  refine plan_same ⟨⟨_, V3.out.trans uA⟩, rfl⟩ ?_
  refine plan_last ?_
  simp only [opsAt, List.map_cons, List.map_nil, List.getElem?_toArray, List.getElem?_cons_zero, List.getElem?_cons_succ, Option.getD_some]
  repeat (go_big_quiet_step (fail))
  refine wpQuiet_nil ?_
  unfold planEnd
  go_wp2_with fail
  refine bodyPost_ret (results_cell_row rfl _ _ (zz.heap.size + 1) 65 (withI (nth [0, 50, 51, 52, 0, 53, 54, 55] f3) ⟨0, rd, r1, 0, ((fb w 20 12 : Nat) : Int)⟩).arr _ _ rfl bA Try.underlying65 rfl info_inst) rfl ⟨by rw [HE.out], ?_⟩
  exact U3.out.then uA (fun x hx hlt => by simp at hx; omega)
end Go.Proofs.Ytggjmdgonjhioaa
