/- The code's decoding: its parts. -/
import Derived.Test.YtmdjhahafjlebaaGreatDoorQD07
import Derived.Test.YtmdjhahafjlebaaGreatDoorQD02
import Derived.Test.YtmdjhahafjlebaaGreatDoorQD04
namespace Go.Proofs.YtmdjhahafjlebaaGreatDoor
open Go.RowKit Go.Dio
set_option linter.unusedSimpArgs false
set_option linter.unusedVariables false

def InstV.arr (i : InstV) : Array Value := #[.int .i64 (i.op : Int), .int .i64 (i.rd : Int), .int .i64 (i.r1 : Int), .int .i64 (i.r2 : Int), .int .i32 i.imm]
def partsArr (w code f3 f7 rd r1 r2 : Nat) : Array Value := #[.int .u32 (w : Int), .int .i64 (code : Int), .int .i64 (f3 : Int), .int .i64 (f7 : Int), .int .i64 (rd : Int), .int .i64 (r1 : Int), .int .i64 (r2 : Int)]
theorem InstV.one (i : InstV) : (i.arr.all fun x => x.oneCell') = true := by simp [InstV.arr, Value.oneCell']
theorem info_inst : (Tryz.prog.info? 69).map (·.size) = some 5 := by kernel_rfl
theorem info_parts : (Tryz.prog.info? 144).map (·.size) = some 7 := by kernel_rfl

theorem hl1 (z : World) (o : Obj) : (z.alloc o).heap[z.heap.size]? = some o := Go.heap_alloc_last _ _
theorem hl2 (z : World) (o p : Obj) : ((z.alloc o).alloc p).heap[z.heap.size + 1]? = some p := by simpa using Go.heap_alloc_last (z.alloc o) p
theorem hl3 (z : World) (o p q : Obj) : (((z.alloc o).alloc p).alloc q).heap[z.heap.size + 1 + 1]? = some q := by simpa using Go.heap_alloc_last ((z.alloc o).alloc p) q
theorem with_calls (w code f3 f7 rd r1 r2 op : Nat) (i : InstV) (z : World) :
    Calls Tryz.prog 112 #[.agg (partsArr w code f3 f7 rd r1 r2), .int .i64 (op : Int), .agg i.arr] z fun e z' => e = .returned (.agg (withI op i).arr) ∧ Upd [] z z' := by
  obtain ⟨o, rd', r1', r2', imm⟩ := i
  by_cases h : op = 0
  · subst h
    rw [withI, if_pos rfl]
    unfold partsArr InstV.arr
    go_enter Tryz.func112, Tryz.ntmps112
    go_wp2_with (fail)
    refine bodyPost_ret (results_cell_row rfl _ _ (z.heap.size + 1 + 1) 69 (noI.arr) _ _ rfl (hl3 _ _ _ _) Tryz.underlying69 rfl info_inst) rfl ⟨rfl, ?_⟩
    repeat (first | exact Upd.refl _ _ | refine Upd.alloc ?_ _ | refine Upd.drewN _ ?_ | refine Upd.drew ?_)
  · have d := (cast_ne_b h).1
    rw [withI, if_neg h]
    clear h
    unfold partsArr InstV.arr
    go_enter Tryz.func112, Tryz.ntmps112
    go_wp2_with (fail)
    refine bodyPost_ret (results_cell_row rfl _ _ (z.heap.size + 1 + 1) 69 (InstV.arr ⟨op, rd', r1', r2', imm⟩) _ _ rfl (hl3 _ _ _ _) Tryz.underlying69 rfl info_inst) rfl ⟨rfl, ?_⟩
    repeat (first | exact Upd.refl _ _ | refine Upd.alloc ?_ _ | refine Upd.drewN _ ?_ | refine Upd.drew ?_)

theorem ix8 (a0 a1 a2 a3 a4 a5 a6 a7 f3 : Nat) (h : f3 < 8) (w : World) : (Instr.index 147 (.agg #[.int .i64 (a0 : Int), .int .i64 (a1 : Int), .int .i64 (a2 : Int), .int .i64 (a3 : Int), .int .i64 (a4 : Int), .int .i64 (a5 : Int), .int .i64 (a6 : Int), .int .i64 (a7 : Int)]) (.int .i64 (f3 : Int))).run Tryz.prog w = .ok (.int .i64 ((nth [a0, a1, a2, a3, a4, a5, a6, a7] f3 : Nat) : Int)) w :=
  run_index_nums 147 3 8 .i64 [a0, a1, a2, a3, a4, a5, a6, a7] f3 Tryz.underlying147 (fun w => by go_simp) (fun w => by go_simp) rfl h w
set_option maxRecDepth 20000 in
set_option maxHeartbeats 2000000 in
theorem register_calls (w code f3 f7 rd r1 r2 : Nat) (h3 : f3 < 8) (z : World) :
    Calls Tryz.prog 116 #[.agg (partsArr w code f3 f7 rd r1 r2)] z fun e z' => e = .returned (.int .i64 (opR f7 f3 : Int)) ∧ Upd [] z z' := by
  unfold partsArr
  by_cases h0 : f7 = 0
  · subst h0
    have hx : ∀ w, (Instr.index 147 (.agg #[.int .i64 28, .int .i64 30, .int .i64 31, .int .i64 32, .int .i64 33, .int .i64 34, .int .i64 36, .int .i64 37]) (.int .i64 (f3 : Int))).run Tryz.prog w = .ok (.int .i64 ((nth [28, 30, 31, 32, 33, 34, 36, 37] f3 : Nat) : Int)) w := ix8 28 30 31 32 33 34 36 37 f3 h3
    go_enter Tryz.func116, Tryz.ntmps116
    go_wp2_with (fail)
    go_ret
    exact ⟨rfl, (Upd.refl _ _).alloc _⟩
  by_cases h1 : f7 = 1
  · subst h1
    have hx : ∀ w, (Instr.index 147 (.agg #[.int .i64 38, .int .i64 39, .int .i64 40, .int .i64 41, .int .i64 42, .int .i64 43, .int .i64 44, .int .i64 45]) (.int .i64 (f3 : Int))).run Tryz.prog w = .ok (.int .i64 ((nth [38, 39, 40, 41, 42, 43, 44, 45] f3 : Nat) : Int)) w := ix8 38 39 40 41 42 43 44 45 f3 h3
    go_enter Tryz.func116, Tryz.ntmps116
    go_wp2_with (fail)
    go_ret
    exact ⟨rfl, (Upd.refl _ _).alloc _⟩
  have d0 := (cast_ne_b h0).1
  have d1 := (cast_ne_b h1).1
  rw [opR, if_neg h0, if_neg h1]
  by_cases h2 : f7 = 32
  · subst h2
    by_cases g0 : f3 = 0
    · subst g0
      rw [if_pos ⟨rfl, rfl⟩]
      go_enter Tryz.func116, Tryz.ntmps116
      go_wp2_with (fail)
      go_ret
      exact ⟨rfl, (Upd.refl _ _).alloc _⟩
    by_cases g5 : f3 = 5
    · subst g5
      rw [if_neg (by decide), if_pos ⟨rfl, rfl⟩]
      go_enter Tryz.func116, Tryz.ntmps116
      go_wp2_with (fail)
      go_ret
      exact ⟨rfl, (Upd.refl _ _).alloc _⟩
    have d2 := (cast_ne_b g0).1
    have d3 := (cast_ne_b g5).1
    rw [if_neg (by simp [g0]), if_neg (by simp [g5])]
    clear h0 h1 g0 g5
    go_enter Tryz.func116, Tryz.ntmps116
    go_wp2_with (fail)
    go_ret
    exact ⟨rfl, (Upd.refl _ _).alloc _⟩
  · have d2 := (cast_ne_b h2).1
    rw [if_neg (by simp [h2]), if_neg (by simp [h2])]
    clear h0 h1 h2
    go_enter Tryz.func116, Tryz.ntmps116
    go_wp2_with (fail)
    go_ret
    exact ⟨rfl, (Upd.refl _ _).alloc _⟩
end Go.Proofs.YtmdjhahafjlebaaGreatDoor

namespace Go.Proofs.YtmdjhahafjlebaaGreatDoor
open Go.RowKit Go.Dio
set_option linter.unusedSimpArgs false
set_option linter.unusedVariables false

theorem info_int1 : (Tryz.prog.info? 3).map (·.size) = some 1 := by kernel_rfl
theorem info_r6i : (Tryz.prog.info? 162).map (·.size) = some 6 := by kernel_rfl
def vI (n : Nat) : Value := .int .i64 (n : Int)
theorem ixp (k : Nat) (h : k < 6) (w : World) : (Instr.index 164 (.agg #[.int .i64 0, .int .i64 7, .int .i64 12, .int .i64 3, .int .i64 25, .int .i64 7, .int .i64 7, .int .i64 5, .int .i64 15, .int .i64 5, .int .i64 20, .int .i64 5]) (.int .i64 (k : Int))).run Tryz.prog w = .ok (.agg #[vI (nth [0, 12, 25, 7, 15, 20] k), vI (nth [7, 3, 7, 5, 5, 5] k)]) w := by
  rcases (by omega : k = 0 ∨ k = 1 ∨ k = 2 ∨ k = 3 ∨ k = 4 ∨ k = 5) with rfl | rfl | rfl | rfl | rfl | rfl <;> kernel_rfl
def aps (w k : Nat) : List Value := (([fb w 0 7, fb w 12 3, fb w 25 7, fb w 7 5, fb w 15 5, fb w 20 5].take k) ++ List.replicate (6 - k) 0).map vI
set_option maxRecDepth 20000 in
set_option maxHeartbeats 2000000 in
theorem apart_calls (w : Nat) (hw : w < 2 ^ 32) (zz : World) :
    Calls Tryz.prog 108 #[.int .u32 (w : Int)] zz fun e z' => e = .returned (.agg (partsArr w (fb w 0 7) (fb w 12 3) (fb w 25 7) (fb w 7 5) (fb w 15 5) (fb w 20 5))) ∧ Upd [] zz z' := by
  go_enter Tryz.func108, Tryz.ntmps108
  go_wp2_with (fail)
  have A2 := Lib.hid (heap_old (hl1 zz (.cells (partsArr 0 0 0 0 0 0 0) 144)) (.cells (aps w 0).toArray 162))
  have A3 := Lib.hid (hl2 zz (.cells (partsArr 0 0 0 0 0 0 0) 144) (.cells (aps w 0).toArray 162))
  have UA := Lib.hid (((Upd.refl [] zz).alloc (.cells (partsArr 0 0 0 0 0 0 0) 144)).alloc (.cells (aps w 0).toArray 162))
  go_loopg [14] 6 (fun g v14 wl => ∃ k : Nat, v14 = .int .i64 (k : Int) ∧ k ≤ 6 ∧ g = 6 - k ∧ Hid (wl.heap[zz.heap.size]? = some (.cells (partsArr 0 0 0 0 0 0 0) 144 (0, 0))) ∧ Hid (wl.heap[zz.heap.size + 1]? = some (.cells (aps w k).toArray 162 (0, 0))) ∧ Hid (Upd [] zz wl))
  case atStart => exact ⟨0, rfl, by omega, rfl, A2, A3, UA⟩
  case round =>
    clear A2 A3 UA
    obtain ⟨k, rfl, hk, hg, H2, H3, U⟩ := hrel
    rcases (by omega : k = 0 ∨ k = 1 ∨ k = 2 ∨ k = 3 ∨ k = 4 ∨ k = 5 ∨ k = 6) with rfl | rfl | rfl | rfl | rfl | rfl | rfl
    · skip
      obtain ⟨r, hr⟩ : ∃ r, r = fb w 0 7 := ⟨_, rfl⟩
      have hr2 : r < 2 ^ 32 := by rw [hr]; exact fb_lt32 w 0 7 (by decide)
      have HR := Lib.hid hr
      have hQ := fBits_calls w 0 7
      rw [← hr] at hQ
      have Q := Lib.hid hQ
      have p4 : IntKind.i64.wrap (r : Int) = (r : Int) := wrapi64 (by omega) (by omega)
      clear hr hQ
      have hx : ∀ w, (Instr.index 164 (.agg #[.int .i64 0, .int .i64 7, .int .i64 12, .int .i64 3, .int .i64 25, .int .i64 7, .int .i64 7, .int .i64 5, .int .i64 15, .int .i64 5, .int .i64 20, .int .i64 5]) (.int .i64 0)).run Tryz.prog w = .ok (.agg #[.int .i64 0, .int .i64 7]) w := ixp 0 (by decide)
      have hy : ∀ w, (Instr.index 164 (.agg #[.int .i64 0, .int .i64 7, .int .i64 12, .int .i64 3, .int .i64 25, .int .i64 7, .int .i64 7, .int .i64 5, .int .i64 15, .int .i64 5, .int .i64 20, .int .i64 5]) (.int .i64 ((0 : Nat) : Int))).run Tryz.prog w = .ok (.agg #[.int .i64 0, .int .i64 7]) w := ixp 0 (by decide)
      go_wp2_with (fail)
      refine (Q.out _ hw (by decide) (by decide) (by decide)).mono ?_
      rintro e z1 ⟨rfl, m, rfl⟩
      go_wp2_with (first
        | go_skip
        | ((with_reducible refine at_st 26 ?_); refine L_store_int 3 (.tmp 26) (.tmp 25) rfl (by kernel_rfl) (zz.heap.size + 1) 0 rfl (aps w 0) 162 (show (World.drewN (wr.alloc _) m).heap[zz.heap.size + 1]? = _ from heap_old H3.out _) .i64 (r : Int) rfl info_int1 (show 0 < 6 by decide) ?_))
      intro wA bA uA zA
      have V := Lib.hid (((U.out.alloc _).drewN m).then uA (fun x hx hlt => by simp at hx; omega))
      have K2 := Lib.hid (uA.keep (show (World.drewN (wr.alloc _) m).heap[zz.heap.size]? = _ from heap_old H2.out _) (by simp))
      have K3 : Hid (wA.heap[zz.heap.size + 1]? = some (.cells ((aps w 1)).toArray 162 (0, 0))) := Lib.hid (by rw [bA, HR.out]; rfl)
      clear bA uA zA Q
      go_wp2_with (fail)
      go_roundg (6 - 1)
      case measure => omega
      case rel => exact ⟨1, rfl, by omega, rfl, K2, K3, V⟩
    · skip
      obtain ⟨r, hr⟩ : ∃ r, r = fb w 12 3 := ⟨_, rfl⟩
      have hr2 : r < 2 ^ 32 := by rw [hr]; exact fb_lt32 w 12 3 (by decide)
      have HR := Lib.hid hr
      have hQ := fBits_calls w 12 3
      rw [← hr] at hQ
      have Q := Lib.hid hQ
      have p4 : IntKind.i64.wrap (r : Int) = (r : Int) := wrapi64 (by omega) (by omega)
      clear hr hQ
      have hx : ∀ w, (Instr.index 164 (.agg #[.int .i64 0, .int .i64 7, .int .i64 12, .int .i64 3, .int .i64 25, .int .i64 7, .int .i64 7, .int .i64 5, .int .i64 15, .int .i64 5, .int .i64 20, .int .i64 5]) (.int .i64 1)).run Tryz.prog w = .ok (.agg #[.int .i64 12, .int .i64 3]) w := ixp 1 (by decide)
      have hy : ∀ w, (Instr.index 164 (.agg #[.int .i64 0, .int .i64 7, .int .i64 12, .int .i64 3, .int .i64 25, .int .i64 7, .int .i64 7, .int .i64 5, .int .i64 15, .int .i64 5, .int .i64 20, .int .i64 5]) (.int .i64 ((1 : Nat) : Int))).run Tryz.prog w = .ok (.agg #[.int .i64 12, .int .i64 3]) w := ixp 1 (by decide)
      go_wp2_with (fail)
      refine (Q.out _ hw (by decide) (by decide) (by decide)).mono ?_
      rintro e z1 ⟨rfl, m, rfl⟩
      go_wp2_with (first
        | go_skip
        | ((with_reducible refine at_st 26 ?_); refine L_store_int 3 (.tmp 26) (.tmp 25) rfl (by kernel_rfl) (zz.heap.size + 1) 1 rfl (aps w 1) 162 (show (World.drewN (wr.alloc _) m).heap[zz.heap.size + 1]? = _ from heap_old H3.out _) .i64 (r : Int) rfl info_int1 (show 1 < 6 by decide) ?_))
      intro wA bA uA zA
      have V := Lib.hid (((U.out.alloc _).drewN m).then uA (fun x hx hlt => by simp at hx; omega))
      have K2 := Lib.hid (uA.keep (show (World.drewN (wr.alloc _) m).heap[zz.heap.size]? = _ from heap_old H2.out _) (by simp))
      have K3 : Hid (wA.heap[zz.heap.size + 1]? = some (.cells ((aps w 2)).toArray 162 (0, 0))) := Lib.hid (by rw [bA, HR.out]; rfl)
      clear bA uA zA Q
      go_wp2_with (fail)
      go_roundg (6 - 2)
      case measure => omega
      case rel => exact ⟨2, rfl, by omega, rfl, K2, K3, V⟩
    · skip
      obtain ⟨r, hr⟩ : ∃ r, r = fb w 25 7 := ⟨_, rfl⟩
      have hr2 : r < 2 ^ 32 := by rw [hr]; exact fb_lt32 w 25 7 (by decide)
      have HR := Lib.hid hr
      have hQ := fBits_calls w 25 7
      rw [← hr] at hQ
      have Q := Lib.hid hQ
      have p4 : IntKind.i64.wrap (r : Int) = (r : Int) := wrapi64 (by omega) (by omega)
      clear hr hQ
      have hx : ∀ w, (Instr.index 164 (.agg #[.int .i64 0, .int .i64 7, .int .i64 12, .int .i64 3, .int .i64 25, .int .i64 7, .int .i64 7, .int .i64 5, .int .i64 15, .int .i64 5, .int .i64 20, .int .i64 5]) (.int .i64 2)).run Tryz.prog w = .ok (.agg #[.int .i64 25, .int .i64 7]) w := ixp 2 (by decide)
      have hy : ∀ w, (Instr.index 164 (.agg #[.int .i64 0, .int .i64 7, .int .i64 12, .int .i64 3, .int .i64 25, .int .i64 7, .int .i64 7, .int .i64 5, .int .i64 15, .int .i64 5, .int .i64 20, .int .i64 5]) (.int .i64 ((2 : Nat) : Int))).run Tryz.prog w = .ok (.agg #[.int .i64 25, .int .i64 7]) w := ixp 2 (by decide)
      go_wp2_with (fail)
      refine (Q.out _ hw (by decide) (by decide) (by decide)).mono ?_
      rintro e z1 ⟨rfl, m, rfl⟩
      go_wp2_with (first
        | go_skip
        | ((with_reducible refine at_st 26 ?_); refine L_store_int 3 (.tmp 26) (.tmp 25) rfl (by kernel_rfl) (zz.heap.size + 1) 2 rfl (aps w 2) 162 (show (World.drewN (wr.alloc _) m).heap[zz.heap.size + 1]? = _ from heap_old H3.out _) .i64 (r : Int) rfl info_int1 (show 2 < 6 by decide) ?_))
      intro wA bA uA zA
      have V := Lib.hid (((U.out.alloc _).drewN m).then uA (fun x hx hlt => by simp at hx; omega))
      have K2 := Lib.hid (uA.keep (show (World.drewN (wr.alloc _) m).heap[zz.heap.size]? = _ from heap_old H2.out _) (by simp))
      have K3 : Hid (wA.heap[zz.heap.size + 1]? = some (.cells ((aps w 3)).toArray 162 (0, 0))) := Lib.hid (by rw [bA, HR.out]; rfl)
      clear bA uA zA Q
      go_wp2_with (fail)
      go_roundg (6 - 3)
      case measure => omega
      case rel => exact ⟨3, rfl, by omega, rfl, K2, K3, V⟩
    · skip
      obtain ⟨r, hr⟩ : ∃ r, r = fb w 7 5 := ⟨_, rfl⟩
      have hr2 : r < 2 ^ 32 := by rw [hr]; exact fb_lt32 w 7 5 (by decide)
      have HR := Lib.hid hr
      have hQ := fBits_calls w 7 5
      rw [← hr] at hQ
      have Q := Lib.hid hQ
      have p4 : IntKind.i64.wrap (r : Int) = (r : Int) := wrapi64 (by omega) (by omega)
      clear hr hQ
      have hx : ∀ w, (Instr.index 164 (.agg #[.int .i64 0, .int .i64 7, .int .i64 12, .int .i64 3, .int .i64 25, .int .i64 7, .int .i64 7, .int .i64 5, .int .i64 15, .int .i64 5, .int .i64 20, .int .i64 5]) (.int .i64 3)).run Tryz.prog w = .ok (.agg #[.int .i64 7, .int .i64 5]) w := ixp 3 (by decide)
      have hy : ∀ w, (Instr.index 164 (.agg #[.int .i64 0, .int .i64 7, .int .i64 12, .int .i64 3, .int .i64 25, .int .i64 7, .int .i64 7, .int .i64 5, .int .i64 15, .int .i64 5, .int .i64 20, .int .i64 5]) (.int .i64 ((3 : Nat) : Int))).run Tryz.prog w = .ok (.agg #[.int .i64 7, .int .i64 5]) w := ixp 3 (by decide)
      go_wp2_with (fail)
      refine (Q.out _ hw (by decide) (by decide) (by decide)).mono ?_
      rintro e z1 ⟨rfl, m, rfl⟩
      go_wp2_with (first
        | go_skip
        | ((with_reducible refine at_st 26 ?_); refine L_store_int 3 (.tmp 26) (.tmp 25) rfl (by kernel_rfl) (zz.heap.size + 1) 3 rfl (aps w 3) 162 (show (World.drewN (wr.alloc _) m).heap[zz.heap.size + 1]? = _ from heap_old H3.out _) .i64 (r : Int) rfl info_int1 (show 3 < 6 by decide) ?_))
      intro wA bA uA zA
      have V := Lib.hid (((U.out.alloc _).drewN m).then uA (fun x hx hlt => by simp at hx; omega))
      have K2 := Lib.hid (uA.keep (show (World.drewN (wr.alloc _) m).heap[zz.heap.size]? = _ from heap_old H2.out _) (by simp))
      have K3 : Hid (wA.heap[zz.heap.size + 1]? = some (.cells ((aps w 4)).toArray 162 (0, 0))) := Lib.hid (by rw [bA, HR.out]; rfl)
      clear bA uA zA Q
      go_wp2_with (fail)
      go_roundg (6 - 4)
      case measure => omega
      case rel => exact ⟨4, rfl, by omega, rfl, K2, K3, V⟩
    · skip
      obtain ⟨r, hr⟩ : ∃ r, r = fb w 15 5 := ⟨_, rfl⟩
      have hr2 : r < 2 ^ 32 := by rw [hr]; exact fb_lt32 w 15 5 (by decide)
      have HR := Lib.hid hr
      have hQ := fBits_calls w 15 5
      rw [← hr] at hQ
      have Q := Lib.hid hQ
      have p4 : IntKind.i64.wrap (r : Int) = (r : Int) := wrapi64 (by omega) (by omega)
      clear hr hQ
      have hx : ∀ w, (Instr.index 164 (.agg #[.int .i64 0, .int .i64 7, .int .i64 12, .int .i64 3, .int .i64 25, .int .i64 7, .int .i64 7, .int .i64 5, .int .i64 15, .int .i64 5, .int .i64 20, .int .i64 5]) (.int .i64 4)).run Tryz.prog w = .ok (.agg #[.int .i64 15, .int .i64 5]) w := ixp 4 (by decide)
      have hy : ∀ w, (Instr.index 164 (.agg #[.int .i64 0, .int .i64 7, .int .i64 12, .int .i64 3, .int .i64 25, .int .i64 7, .int .i64 7, .int .i64 5, .int .i64 15, .int .i64 5, .int .i64 20, .int .i64 5]) (.int .i64 ((4 : Nat) : Int))).run Tryz.prog w = .ok (.agg #[.int .i64 15, .int .i64 5]) w := ixp 4 (by decide)
      go_wp2_with (fail)
      refine (Q.out _ hw (by decide) (by decide) (by decide)).mono ?_
      rintro e z1 ⟨rfl, m, rfl⟩
      go_wp2_with (first
        | go_skip
        | ((with_reducible refine at_st 26 ?_); refine L_store_int 3 (.tmp 26) (.tmp 25) rfl (by kernel_rfl) (zz.heap.size + 1) 4 rfl (aps w 4) 162 (show (World.drewN (wr.alloc _) m).heap[zz.heap.size + 1]? = _ from heap_old H3.out _) .i64 (r : Int) rfl info_int1 (show 4 < 6 by decide) ?_))
      intro wA bA uA zA
      have V := Lib.hid (((U.out.alloc _).drewN m).then uA (fun x hx hlt => by simp at hx; omega))
      have K2 := Lib.hid (uA.keep (show (World.drewN (wr.alloc _) m).heap[zz.heap.size]? = _ from heap_old H2.out _) (by simp))
      have K3 : Hid (wA.heap[zz.heap.size + 1]? = some (.cells ((aps w 5)).toArray 162 (0, 0))) := Lib.hid (by rw [bA, HR.out]; rfl)
      clear bA uA zA Q
      go_wp2_with (fail)
      go_roundg (6 - 5)
      case measure => omega
      case rel => exact ⟨5, rfl, by omega, rfl, K2, K3, V⟩
    · skip
      obtain ⟨r, hr⟩ : ∃ r, r = fb w 20 5 := ⟨_, rfl⟩
      have hr2 : r < 2 ^ 32 := by rw [hr]; exact fb_lt32 w 20 5 (by decide)
      have HR := Lib.hid hr
      have hQ := fBits_calls w 20 5
      rw [← hr] at hQ
      have Q := Lib.hid hQ
      have p4 : IntKind.i64.wrap (r : Int) = (r : Int) := wrapi64 (by omega) (by omega)
      clear hr hQ
      have hx : ∀ w, (Instr.index 164 (.agg #[.int .i64 0, .int .i64 7, .int .i64 12, .int .i64 3, .int .i64 25, .int .i64 7, .int .i64 7, .int .i64 5, .int .i64 15, .int .i64 5, .int .i64 20, .int .i64 5]) (.int .i64 5)).run Tryz.prog w = .ok (.agg #[.int .i64 20, .int .i64 5]) w := ixp 5 (by decide)
      have hy : ∀ w, (Instr.index 164 (.agg #[.int .i64 0, .int .i64 7, .int .i64 12, .int .i64 3, .int .i64 25, .int .i64 7, .int .i64 7, .int .i64 5, .int .i64 15, .int .i64 5, .int .i64 20, .int .i64 5]) (.int .i64 ((5 : Nat) : Int))).run Tryz.prog w = .ok (.agg #[.int .i64 20, .int .i64 5]) w := ixp 5 (by decide)
      go_wp2_with (fail)
      refine (Q.out _ hw (by decide) (by decide) (by decide)).mono ?_
      rintro e z1 ⟨rfl, m, rfl⟩
      go_wp2_with (first
        | go_skip
        | ((with_reducible refine at_st 26 ?_); refine L_store_int 3 (.tmp 26) (.tmp 25) rfl (by kernel_rfl) (zz.heap.size + 1) 5 rfl (aps w 5) 162 (show (World.drewN (wr.alloc _) m).heap[zz.heap.size + 1]? = _ from heap_old H3.out _) .i64 (r : Int) rfl info_int1 (show 5 < 6 by decide) ?_))
      intro wA bA uA zA
      have V := Lib.hid (((U.out.alloc _).drewN m).then uA (fun x hx hlt => by simp at hx; omega))
      have K2 := Lib.hid (uA.keep (show (World.drewN (wr.alloc _) m).heap[zz.heap.size]? = _ from heap_old H2.out _) (by simp))
      have K3 : Hid (wA.heap[zz.heap.size + 1]? = some (.cells ((aps w 6)).toArray 162 (0, 0))) := Lib.hid (by rw [bA, HR.out]; rfl)
      clear bA uA zA Q
      go_wp2_with (fail)
      go_roundg (6 - 6)
      case measure => omega
      case rel => exact ⟨6, rfl, by omega, rfl, K2, K3, V⟩
    · have c := cells_of H3.out
      have c0 : wr.cell? ⟨zz.heap.size + 1, 0, none⟩ = some (.int .i64 (fb w 0 7 : Int)) := by rw [c]; rfl
      have c1 : wr.cell? ⟨zz.heap.size + 1, 1, none⟩ = some (.int .i64 (fb w 12 3 : Int)) := by rw [c]; rfl
      have c2 : wr.cell? ⟨zz.heap.size + 1, 2, none⟩ = some (.int .i64 (fb w 25 7 : Int)) := by rw [c]; rfl
      have c3 : wr.cell? ⟨zz.heap.size + 1, 3, none⟩ = some (.int .i64 (fb w 7 5 : Int)) := by rw [c]; rfl
      have c4 : wr.cell? ⟨zz.heap.size + 1, 4, none⟩ = some (.int .i64 (fb w 15 5 : Int)) := by rw [c]; rfl
      have c5 : wr.cell? ⟨zz.heap.size + 1, 5, none⟩ = some (.int .i64 (fb w 20 5 : Int)) := by rw [c]; rfl
      clear c
      go_wp2_with (first
        | go_skip
        | ((with_reducible refine at_st 2 ?_); refine L_store_row 144 (.tmp 2) (.tmp 41) rfl (by kernel_rfl) zz.heap.size 0 rfl (partsArr 0 0 0 0 0 0 0).toList 144 H2.out (partsArr w (fb w 0 7) (fb w 12 3) (fb w 25 7) (fb w 7 5) (fb w 15 5) (fb w 20 5)) rfl 7 info_parts rfl (by decide) (by simp [partsArr, Value.oneCell']) ?_))
      intro wA bA uA zA
      rw [spl_all (by rfl)] at bA
      go_wp2_with (fail)
      refine bodyPost_ret (results_cell_row rfl _ _ zz.heap.size 144 (partsArr w (fb w 0 7) (fb w 12 3) (fb w 25 7) (fb w 7 5) (fb w 15 5) (fb w 20 5)) _ _ rfl bA Tryz.underlying144 rfl info_parts) rfl ⟨rfl, ?_⟩
      exact U.out.then uA (fun x hx hlt => by simp at hx; omega)
end Go.Proofs.YtmdjhahafjlebaaGreatDoor

namespace Go.Proofs.YtmdjhahafjlebaaGreatDoor
open Go.RowKit Go.Dio
set_option linter.unusedSimpArgs false
set_option linter.unusedVariables false

theorem sysP_1 (w f3 rd r1 : Nat) (h1 : w ≠ 115) (h2 : w ≠ 1048691) (h3 : w ≠ 807403635) : sysP w f3 rd r1 = withI (nth [0, 50, 51, 52, 0, 53, 54, 55] f3) ⟨0, rd, r1, 0, ((fb w 20 12 : Nat) : Int)⟩ := by
  unfold sysP; rw [if_neg h1, if_neg h2, if_neg h3]; rfl
set_option maxRecDepth 20000 in
set_option maxHeartbeats 2000000 in
theorem system_calls (w code f3 f7 rd r1 r2 : Nat) (hw : w < 2 ^ 32) (h3 : f3 < 8) (zz : World) :
    Calls Tryz.prog 117 #[.agg (partsArr w code f3 f7 rd r1 r2)] zz fun e z' => e = .returned (.agg (sysP w f3 rd r1).arr) ∧ Upd [] zz z' := by
  by_cases w1 : w = 115
  · subst w1
    unfold partsArr
    go_enter Tryz.func117, Tryz.ntmps117
    go_wp2_with (fail)
    go_wp2_with (fail)
    refine bodyPost_ret (results_cell_row rfl _ _ (zz.heap.size + 1) 69 (InstV.arr ⟨47, 0, 0, 0, 0⟩) _ _ rfl (hl2 _ _ _) Tryz.underlying69 rfl info_inst) rfl ⟨rfl, ?_⟩
    repeat (first | exact Upd.refl _ _ | refine Upd.alloc ?_ _ | refine Upd.drewN _ ?_ | refine Upd.drew ?_)
  by_cases w2 : w = 1048691
  · subst w2
    unfold partsArr
    go_enter Tryz.func117, Tryz.ntmps117
    go_wp2_with (fail)
    go_wp2_with (fail)
    refine bodyPost_ret (results_cell_row rfl _ _ (zz.heap.size + 1) 69 (InstV.arr ⟨48, 0, 0, 0, 0⟩) _ _ rfl (hl2 _ _ _) Tryz.underlying69 rfl info_inst) rfl ⟨rfl, ?_⟩
    repeat (first | exact Upd.refl _ _ | refine Upd.alloc ?_ _ | refine Upd.drewN _ ?_ | refine Upd.drew ?_)
  by_cases w3 : w = 807403635
  · subst w3
    unfold partsArr
    go_enter Tryz.func117, Tryz.ntmps117
    go_wp2_with (fail)
    go_wp2_with (fail)
    refine bodyPost_ret (results_cell_row rfl _ _ (zz.heap.size + 1) 69 (InstV.arr ⟨49, 0, 0, 0, 0⟩) _ _ rfl (hl2 _ _ _) Tryz.underlying69 rfl info_inst) rfl ⟨rfl, ?_⟩
    repeat (first | exact Upd.refl _ _ | refine Upd.alloc ?_ _ | refine Upd.drewN _ ?_ | refine Upd.drew ?_)
  have d1 : ((w : Int) == 115) = false := (cast_ne_b w1).1
  have d2 : ((w : Int) == 1048691) = false := (cast_ne_b w2).1
  have d3 : ((w : Int) == 807403635) = false := (cast_ne_b w3).1
  have HE := Lib.hid (sysP_1 w f3 rd r1 w1 w2 w3)
  clear w1 w2 w3
  have hx : ∀ w, (Instr.index 147 (.agg #[.int .i64 0, .int .i64 50, .int .i64 51, .int .i64 52, .int .i64 0, .int .i64 53, .int .i64 54, .int .i64 55]) (.int .i64 (f3 : Int))).run Tryz.prog w = .ok (.int .i64 ((nth [0, 50, 51, 52, 0, 53, 54, 55] f3 : Nat) : Int)) w := ix8 0 50 51 52 0 53 54 55 f3 h3
  have hf := fb_lt w 20 12
  have p1 : IntKind.i32.wrap (fb w 20 12 : Int) = (fb w 20 12 : Int) := by rw [IntKind.wrap_i32]; omega
  unfold partsArr
  go_enter Tryz.func117, Tryz.ntmps117
  go_wp2_with (fail)
  generalize hW : World.alloc (World.alloc zz _) _ = W
  have B1 : W.heap[zz.heap.size]? = some (.cells (partsArr w code f3 f7 rd r1 r2) 144 (0, 0)) := by rw [← hW]; exact heap_old (hl1 _ _) _
  have B2 : W.heap[zz.heap.size + 1]? = some (.cells noI.arr 69 (0, 0)) := by rw [← hW]; exact hl2 _ _ _
  have U : Hid (Upd [] zz W) := Lib.hid (by rw [← hW]; exact ((Upd.refl _ _).alloc _).alloc _)
  clear hW
  have R1 := Lib.hid (fun x : Near [zz.heap.size + 1] W => row_range (x.2.keep B1 (by simp)))
  have n1 : ∀ x : Near [zz.heap.size + 1] W, x.1.cell? ⟨zz.heap.size, 2, none⟩ = some (.int .i64 (f3 : Int)) := fun x => by rw [cells_of (x.2.keep B1 (by simp))]; rfl
  have n2 : ∀ x : Near [zz.heap.size + 1] W, x.1.cell? ⟨zz.heap.size, 4, none⟩ = some (.int .i64 (rd : Int)) := fun x => by rw [cells_of (x.2.keep B1 (by simp))]; rfl
  have n3 : ∀ x : Near [zz.heap.size + 1] W, x.1.cell? ⟨zz.heap.size, 5, none⟩ = some (.int .i64 (r1 : Int)) := fun x => by rw [cells_of (x.2.keep B1 (by simp))]; rfl
  have n4 : ∀ x : Near [zz.heap.size + 1] W, x.1.cell? ⟨zz.heap.size, 0, none⟩ = some (.int .u32 (w : Int)) := fun x => by rw [cells_of (x.2.keep B1 (by simp))]; rfl
  have P2 := Lib.hid B2
  clear B1 B2
  refine wp_region_plan (fun z => ∃ x : Near [zz.heap.size + 1] W, z = x.1) [([0, 1, 2, 3, 4, 5, 6, 7, 8, 9, 10], 11), ([12, 13], 14), ([], 15)] [] (by kernel_rfl) (by kernel_rfl) (by kernel_rfl) (by kernel_rfl) (fun _ d _ _ _ h => by cases d <;> exact h) ⟨⟨(W).drew, (Upd.refl _ _).drew⟩, rfl⟩ ?_
  refine plan_next ?_
  simp only [opsAt, List.map_cons, List.map_nil, List.getElem?_toArray, List.getElem?_cons_zero, List.getElem?_cons_succ, Option.getD_some]
  repeat (first
    | go_big_quiet_step (fail)
    | (refine Q_load 144 (.tmp 1) rfl (by kernel_rfl) _ _ rfl (partsArr w code f3 f7 rd r1 r2) (by rintro _ ⟨y, rfl⟩; exact R1.out y) Tryz.underlying144 rfl 7 info_parts rfl ?_; go_simp))
  refine wpQuiet_nil ?_
  refine plan_one rfl ?_
  go_wp2_with fail
  refine (fBits_calls w 20 12 _ hw (by decide) (by decide) (by decide)).mono ?_
  rintro e z1 ⟨rfl, m, rfl⟩
  go_wp2_with fail
  refine plan_same ⟨⟨_, Upd.drewN _ (Upd.refl _ _)⟩, rfl⟩ ?_
  refine plan_next ?_
  simp only [opsAt, List.map_cons, List.map_nil, List.getElem?_toArray, List.getElem?_cons_zero, List.getElem?_cons_succ, Option.getD_some]
  repeat (go_big_quiet_step (fail))
  refine wpQuiet_nil ?_
  refine plan_one rfl ?_
  go_wp2_with fail
  refine (with_calls w code f3 f7 rd r1 r2 (nth [0, 50, 51, 52, 0, 53, 54, 55] f3) ⟨0, rd, r1, 0, ((fb w 20 12 : Nat) : Int)⟩ _).mono ?_
  rintro e w3 ⟨rfl, u3⟩
  have V3 := Lib.hid ((Upd.drewN (1 + m) (Upd.refl [zz.heap.size + 1] W)).trans (u3.mono (T := [zz.heap.size + 1]) (by simp)))
  have R2 := Lib.hid (u3.keep (show (World.drewN W (1 + m)).heap[zz.heap.size + 1]? = _ from P2.out) (by simp))
  have U3 := Lib.hid ((U.out.drewN (1 + m)).trans u3)
  clear u3 U
  go_wp2_with fail
  refine plan_same ⟨⟨_, V3.out⟩, rfl⟩ ?_
  refine plan_next ?_
  simp only [opsAt, List.map_cons, List.map_nil, List.getElem?_toArray, List.getElem?_cons_zero, List.getElem?_cons_succ, Option.getD_some]
  repeat (go_big_quiet_step (fail))
  refine wpQuiet_nil ?_
  refine plan_one rfl ?_
  refine L_store_row 69 (.tmp 2) (.tmp 28) rfl (by kernel_rfl) (zz.heap.size + 1) 0 rfl noI.arr.toList 69 R2.out (withI (nth [0, 50, 51, 52, 0, 53, 54, 55] f3) ⟨0, rd, r1, 0, ((fb w 20 12 : Nat) : Int)⟩).arr rfl 5 info_inst rfl (by decide) (InstV.one _) ?_
  intro wA bA uA zA
  rw [spl_all (by rfl)] at bA
  refine plan_same ⟨⟨_, V3.out.trans uA⟩, rfl⟩ ?_
  refine plan_last ?_
  simp only [opsAt, List.map_cons, List.map_nil, List.getElem?_toArray, List.getElem?_cons_zero, List.getElem?_cons_succ, Option.getD_some]
  repeat (go_big_quiet_step (fail))
  refine wpQuiet_nil ?_
  unfold planEnd
  go_wp2_with fail
  refine bodyPost_ret (results_cell_row rfl _ _ (zz.heap.size + 1) 69 (withI (nth [0, 50, 51, 52, 0, 53, 54, 55] f3) ⟨0, rd, r1, 0, ((fb w 20 12 : Nat) : Int)⟩).arr _ _ rfl bA Tryz.underlying69 rfl info_inst) rfl ⟨by rw [HE.out], ?_⟩
  exact U3.out.then uA (fun x hx hlt => by simp at hx; omega)
end Go.Proofs.YtmdjhahafjlebaaGreatDoor
