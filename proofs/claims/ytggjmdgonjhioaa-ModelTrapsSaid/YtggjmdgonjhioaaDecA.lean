/- The code's decoding: its parts. -/
import Derived.Test.YtggjmdgonjhioaaFldA
import Derived.Test.YtggjmdgonjhioaaRow
import Derived.Test.YtggjmdgonjhioaaCel
import Derived.Test.YtggjmdgonjhioaaAt
import Derived.Test.YtggjmdgonjhioaaStI
import Derived.Test.YtggjmdgonjhioaaTree
namespace Go.Proofs.Ytggjmdgonjhioaa
open Go.RowKit Go.Dio
set_option linter.unusedSimpArgs false
set_option linter.unusedVariables false

def InstV.arr (i : InstV) : Array Value := #[.int .i64 (i.op : Int), .int .i64 (i.rd : Int), .int .i64 (i.r1 : Int), .int .i64 (i.r2 : Int), .int .i32 i.imm]
def partsArr (w code f3 f7 rd r1 r2 : Nat) : Array Value := #[.int .u32 (w : Int), .int .i64 (code : Int), .int .i64 (f3 : Int), .int .i64 (f7 : Int), .int .i64 (rd : Int), .int .i64 (r1 : Int), .int .i64 (r2 : Int)]
theorem InstV.one (i : InstV) : (i.arr.all fun x => x.oneCell') = true := by simp [InstV.arr, Value.oneCell']
theorem info_inst : (Try.prog.info? 65).map (·.size) = some 5 := by kernel_rfl
theorem info_parts : (Try.prog.info? 99).map (·.size) = some 7 := by kernel_rfl

theorem hl1 (z : World) (o : Obj) : (z.alloc o).heap[z.heap.size]? = some o := Go.heap_alloc_last _ _
theorem hl2 (z : World) (o p : Obj) : ((z.alloc o).alloc p).heap[z.heap.size + 1]? = some p := by simpa using Go.heap_alloc_last (z.alloc o) p
theorem hl3 (z : World) (o p q : Obj) : (((z.alloc o).alloc p).alloc q).heap[z.heap.size + 1 + 1]? = some q := by simpa using Go.heap_alloc_last ((z.alloc o).alloc p) q
theorem with_calls (w code f3 f7 rd r1 r2 op : Nat) (i : InstV) (z : World) :
    Calls Try.prog 66 #[.agg (partsArr w code f3 f7 rd r1 r2), .int .i64 (op : Int), .agg i.arr] z fun e z' => e = .returned (.agg (withI op i).arr) ∧ Upd [] z z' := by
  obtain ⟨o, rd', r1', r2', imm⟩ := i
  by_cases h : op = 0
  · subst h
    rw [withI, if_pos rfl]
    unfold partsArr InstV.arr
    go_enter Try.func66, Try.ntmps66
    go_wp2_with (fail)
    refine bodyPost_ret (results_cell_row rfl _ _ (z.heap.size + 1 + 1) 65 (noI.arr) _ _ rfl (hl3 _ _ _ _) Try.underlying65 rfl info_inst) rfl ⟨rfl, ?_⟩
    repeat (first | exact Upd.refl _ _ | refine Upd.alloc ?_ _ | refine Upd.drewN _ ?_ | refine Upd.drew ?_)
  · have d := (cast_ne_b h).1
    rw [withI, if_neg h]
    clear h
    unfold partsArr InstV.arr
    go_enter Try.func66, Try.ntmps66
    go_wp2_with (fail)
    refine bodyPost_ret (results_cell_row rfl _ _ (z.heap.size + 1 + 1) 65 (InstV.arr ⟨op, rd', r1', r2', imm⟩) _ _ rfl (hl3 _ _ _ _) Try.underlying65 rfl info_inst) rfl ⟨rfl, ?_⟩
    repeat (first | exact Upd.refl _ _ | refine Upd.alloc ?_ _ | refine Upd.drewN _ ?_ | refine Upd.drew ?_)

theorem ix8 (a0 a1 a2 a3 a4 a5 a6 a7 f3 : Nat) (h : f3 < 8) (w : World) : (Instr.index 102 (.agg #[.int .i64 (a0 : Int), .int .i64 (a1 : Int), .int .i64 (a2 : Int), .int .i64 (a3 : Int), .int .i64 (a4 : Int), .int .i64 (a5 : Int), .int .i64 (a6 : Int), .int .i64 (a7 : Int)]) (.int .i64 (f3 : Int))).run Try.prog w = .ok (.int .i64 ((nth [a0, a1, a2, a3, a4, a5, a6, a7] f3 : Nat) : Int)) w :=
  run_index_nums 102 3 8 .i64 [a0, a1, a2, a3, a4, a5, a6, a7] f3 Try.underlying102 (fun w => by go_simp) (fun w => by go_simp) rfl h w
set_option maxRecDepth 20000 in
set_option maxHeartbeats 2000000 in
theorem register_calls (w code f3 f7 rd r1 r2 : Nat) (h3 : f3 < 8) (z : World) :
    Calls Try.prog 70 #[.agg (partsArr w code f3 f7 rd r1 r2)] z fun e z' => e = .returned (.int .i64 (opR f7 f3 : Int)) ∧ Upd [] z z' := by
  unfold partsArr
  by_cases h0 : f7 = 0
  · subst h0
    have hx : ∀ w, (Instr.index 102 (.agg #[.int .i64 28, .int .i64 30, .int .i64 31, .int .i64 32, .int .i64 33, .int .i64 34, .int .i64 36, .int .i64 37]) (.int .i64 (f3 : Int))).run Try.prog w = .ok (.int .i64 ((nth [28, 30, 31, 32, 33, 34, 36, 37] f3 : Nat) : Int)) w := ix8 28 30 31 32 33 34 36 37 f3 h3
    go_enter Try.func70, Try.ntmps70
    go_wp2_with (fail)
    go_ret
    exact ⟨rfl, (Upd.refl _ _).alloc _⟩
  by_cases h1 : f7 = 1
  · subst h1
    have hx : ∀ w, (Instr.index 102 (.agg #[.int .i64 38, .int .i64 39, .int .i64 40, .int .i64 41, .int .i64 42, .int .i64 43, .int .i64 44, .int .i64 45]) (.int .i64 (f3 : Int))).run Try.prog w = .ok (.int .i64 ((nth [38, 39, 40, 41, 42, 43, 44, 45] f3 : Nat) : Int)) w := ix8 38 39 40 41 42 43 44 45 f3 h3
    go_enter Try.func70, Try.ntmps70
    go_wp2_with (fail)
    go_ret
    exact ⟨rfl, (Upd.refl _ _).alloc _⟩
  have d0 := (cast_ne_b h0).1
  have d1 := (cast_ne_b h1).1
  rw [opR, if_neg h0, if_neg h1]
  by_cases h2 : f7 = 32
  · subst h2
    by_cases g0 : f3 = 0
    · subst g0
      rw [if_pos ⟨rfl, rfl⟩]
      go_enter Try.func70, Try.ntmps70
      go_wp2_with (fail)
      go_ret
      exact ⟨rfl, (Upd.refl _ _).alloc _⟩
    by_cases g5 : f3 = 5
    · subst g5
      rw [if_neg (by decide), if_pos ⟨rfl, rfl⟩]
      go_enter Try.func70, Try.ntmps70
      go_wp2_with (fail)
      go_ret
      exact ⟨rfl, (Upd.refl _ _).alloc _⟩
    have d2 := (cast_ne_b g0).1
    have d3 := (cast_ne_b g5).1
    rw [if_neg (by simp [g0]), if_neg (by simp [g5])]
    clear h0 h1 g0 g5
    go_enter Try.func70, Try.ntmps70
    go_wp2_with (fail)
    go_ret
    exact ⟨rfl, (Upd.refl _ _).alloc _⟩
  · have d2 := (cast_ne_b h2).1
    rw [if_neg (by simp [h2]), if_neg (by simp [h2])]
    clear h0 h1 h2
    go_enter Try.func70, Try.ntmps70
    go_wp2_with (fail)
    go_ret
    exact ⟨rfl, (Upd.refl _ _).alloc _⟩
end Go.Proofs.Ytggjmdgonjhioaa
