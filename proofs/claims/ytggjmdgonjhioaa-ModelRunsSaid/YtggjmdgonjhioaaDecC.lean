/- The code's decoding: a word's fields. -/
import Derived.Test.YtggjmdgonjhioaaDecA
namespace Go.Proofs.Ytggjmdgonjhioaa
open Go.RowKit Go.Dio
set_option linter.unusedSimpArgs false
set_option linter.unusedVariables false

theorem info_int1 : (Try.prog.info? 3).map (·.size) = some 1 := by kernel_rfl
theorem info_r6i : (Try.prog.info? 108).map (·.size) = some 6 := by kernel_rfl
def vI (n : Nat) : Value := .int .i64 (n : Int)
theorem ixp (k : Nat) (h : k < 6) (w : World) : (Instr.index 110 (.agg #[.int .i64 0, .int .i64 7, .int .i64 12, .int .i64 3, .int .i64 25, .int .i64 7, .int .i64 7, .int .i64 5, .int .i64 15, .int .i64 5, .int .i64 20, .int .i64 5]) (.int .i64 (k : Int))).run Try.prog w = .ok (.agg #[vI (nth [0, 12, 25, 7, 15, 20] k), vI (nth [7, 3, 7, 5, 5, 5] k)]) w := by
  rcases (by omega : k = 0 ∨ k = 1 ∨ k = 2 ∨ k = 3 ∨ k = 4 ∨ k = 5) with rfl | rfl | rfl | rfl | rfl | rfl <;> kernel_rfl
def aps (w k : Nat) : List Value := (([fb w 0 7, fb w 12 3, fb w 25 7, fb w 7 5, fb w 15 5, fb w 20 5].take k) ++ List.replicate (6 - k) 0).map vI
set_option maxRecDepth 20000 in
set_option maxHeartbeats 2000000 in
theorem apart_calls (w : Nat) (hw : w < 2 ^ 32) (zz : World) :
    Calls Try.prog 62 #[.int .u32 (w : Int)] zz fun e z' => e = .returned (.agg (partsArr w (fb w 0 7) (fb w 12 3) (fb w 25 7) (fb w 7 5) (fb w 15 5) (fb w 20 5))) ∧ Upd [] zz z' := by
  go_enter Try.func62, Try.ntmps62
  go_wp2_with (fail)
  have A2 := Lib.hid (heap_old (hl1 zz (.cells (partsArr 0 0 0 0 0 0 0) 99)) (.cells (aps w 0).toArray 108))
  have A3 := Lib.hid (hl2 zz (.cells (partsArr 0 0 0 0 0 0 0) 99) (.cells (aps w 0).toArray 108))
  have UA := Lib.hid (((Upd.refl [] zz).alloc (.cells (partsArr 0 0 0 0 0 0 0) 99)).alloc (.cells (aps w 0).toArray 108))
  go_loopg [14] 6 (fun g v14 wl => ∃ k : Nat, v14 = .int .i64 (k : Int) ∧ k ≤ 6 ∧ g = 6 - k ∧ Hid (wl.heap[zz.heap.size]? = some (.cells (partsArr 0 0 0 0 0 0 0) 99 (0, 0))) ∧ Hid (wl.heap[zz.heap.size + 1]? = some (.cells (aps w k).toArray 108 (0, 0))) ∧ Hid (Upd [] zz wl))
  case atStart => exact ⟨0, rfl, by omega, rfl, A2, A3, UA⟩
  case round =>
    clear A2 A3 UA
    obtain ⟨k, rfl, hk, hg, H2, H3, U⟩ := hrel
    rcases (by omega : k = 0 ∨ k = 1 ∨ k = 2 ∨ k = 3 ∨ k = 4 ∨ k = 5 ∨ k = 6) with rfl | rfl | rfl | rfl | rfl | rfl | rfl
    · skip
      obtain ⟨r, hr⟩ : ∃ r, r = fb w 0 7 := ⟨_, rfl⟩
      have hr2 : r < 2 ^ 32 := by rw [hr]; exact fb_lt32 w 0 7 (by decide)
      have HR := Lib.hid hr
      have hQ := fBits_calls w 0 7
      rw [← hr] at hQ
      have Q := Lib.hid hQ
      have p4 : IntKind.i64.wrap (r : Int) = (r : Int) := wrapi64 (by omega) (by omega)
      clear hr hQ
      have hx : ∀ w, (Instr.index 110 (.agg #[.int .i64 0, .int .i64 7, .int .i64 12, .int .i64 3, .int .i64 25, .int .i64 7, .int .i64 7, .int .i64 5, .int .i64 15, .int .i64 5, .int .i64 20, .int .i64 5]) (.int .i64 0)).run Try.prog w = .ok (.agg #[.int .i64 0, .int .i64 7]) w := ixp 0 (by decide)
      have hy : ∀ w, (Instr.index 110 (.agg #[.int .i64 0, .int .i64 7, .int .i64 12, .int .i64 3, .int .i64 25, .int .i64 7, .int .i64 7, .int .i64 5, .int .i64 15, .int .i64 5, .int .i64 20, .int .i64 5]) (.int .i64 ((0 : Nat) : Int))).run Try.prog w = .ok (.agg #[.int .i64 0, .int .i64 7]) w := ixp 0 (by decide)
      go_wp2_with (fail)
      refine (Q.out _ hw (by decide) (by decide) (by decide)).mono ?_
      rintro e z1 ⟨rfl, m, rfl⟩
      go_wp2_with (first
        | go_skip
        | ((with_reducible refine at_st 26 ?_); refine L_store_int 3 (.tmp 26) (.tmp 25) rfl (by kernel_rfl) (zz.heap.size + 1) 0 rfl (aps w 0) 108 (show (World.drewN (wr.alloc _) m).heap[zz.heap.size + 1]? = _ from heap_old H3.out _) .i64 (r : Int) rfl info_int1 (show 0 < 6 by decide) ?_))
      intro wA bA uA zA
      have V := Lib.hid (((U.out.alloc _).drewN m).then uA (fun x hx hlt => by simp at hx; omega))
      have K2 := Lib.hid (uA.keep (show (World.drewN (wr.alloc _) m).heap[zz.heap.size]? = _ from heap_old H2.out _) (by simp))
      have K3 : Hid (wA.heap[zz.heap.size + 1]? = some (.cells ((aps w 1)).toArray 108 (0, 0))) := Lib.hid (by rw [bA, HR.out]; rfl)
      clear bA uA zA Q
      go_wp2_with (fail)
      go_roundg (6 - 1)
      case measure => omega
      case rel => exact ⟨1, rfl, by omega, rfl, K2, K3, V⟩
    · skip
      obtain ⟨r, hr⟩ : ∃ r, r = fb w 12 3 := ⟨_, rfl⟩
      have hr2 : r < 2 ^ 32 := by rw [hr]; exact fb_lt32 w 12 3 (by decide)
      have HR := Lib.hid hr
      have hQ := fBits_calls w 12 3
      rw [← hr] at hQ
      have Q := Lib.hid hQ
      have p4 : IntKind.i64.wrap (r : Int) = (r : Int) := wrapi64 (by omega) (by omega)
      clear hr hQ
      have hx : ∀ w, (Instr.index 110 (.agg #[.int .i64 0, .int .i64 7, .int .i64 12, .int .i64 3, .int .i64 25, .int .i64 7, .int .i64 7, .int .i64 5, .int .i64 15, .int .i64 5, .int .i64 20, .int .i64 5]) (.int .i64 1)).run Try.prog w = .ok (.agg #[.int .i64 12, .int .i64 3]) w := ixp 1 (by decide)
      have hy : ∀ w, (Instr.index 110 (.agg #[.int .i64 0, .int .i64 7, .int .i64 12, .int .i64 3, .int .i64 25, .int .i64 7, .int .i64 7, .int .i64 5, .int .i64 15, .int .i64 5, .int .i64 20, .int .i64 5]) (.int .i64 ((1 : Nat) : Int))).run Try.prog w = .ok (.agg #[.int .i64 12, .int .i64 3]) w := ixp 1 (by decide)
      go_wp2_with (fail)
      refine (Q.out _ hw (by decide) (by decide) (by decide)).mono ?_
      rintro e z1 ⟨rfl, m, rfl⟩
      go_wp2_with (first
        | go_skip
        | ((with_reducible refine at_st 26 ?_); refine L_store_int 3 (.tmp 26) (.tmp 25) rfl (by kernel_rfl) (zz.heap.size + 1) 1 rfl (aps w 1) 108 (show (World.drewN (wr.alloc _) m).heap[zz.heap.size + 1]? = _ from heap_old H3.out _) .i64 (r : Int) rfl info_int1 (show 1 < 6 by decide) ?_))
      intro wA bA uA zA
      have V := Lib.hid (((U.out.alloc _).drewN m).then uA (fun x hx hlt => by simp at hx; omega))
      have K2 := Lib.hid (uA.keep (show (World.drewN (wr.alloc _) m).heap[zz.heap.size]? = _ from heap_old H2.out _) (by simp))
      have K3 : Hid (wA.heap[zz.heap.size + 1]? = some (.cells ((aps w 2)).toArray 108 (0, 0))) := Lib.hid (by rw [bA, HR.out]; rfl)
      clear bA uA zA Q
      go_wp2_with (fail)
      go_roundg (6 - 2)
      case measure => omega
      case rel => exact ⟨2, rfl, by omega, rfl, K2, K3, V⟩
    · skip
      obtain ⟨r, hr⟩ : ∃ r, r = fb w 25 7 := ⟨_, rfl⟩
      have hr2 : r < 2 ^ 32 := by rw [hr]; exact fb_lt32 w 25 7 (by decide)
      have HR := Lib.hid hr
      have hQ := fBits_calls w 25 7
      rw [← hr] at hQ
      have Q := Lib.hid hQ
      have p4 : IntKind.i64.wrap (r : Int) = (r : Int) := wrapi64 (by omega) (by omega)
      clear hr hQ
      have hx : ∀ w, (Instr.index 110 (.agg #[.int .i64 0, .int .i64 7, .int .i64 12, .int .i64 3, .int .i64 25, .int .i64 7, .int .i64 7, .int .i64 5, .int .i64 15, .int .i64 5, .int .i64 20, .int .i64 5]) (.int .i64 2)).run Try.prog w = .ok (.agg #[.int .i64 25, .int .i64 7]) w := ixp 2 (by decide)
      have hy : ∀ w, (Instr.index 110 (.agg #[.int .i64 0, .int .i64 7, .int .i64 12, .int .i64 3, .int .i64 25, .int .i64 7, .int .i64 7, .int .i64 5, .int .i64 15, .int .i64 5, .int .i64 20, .int .i64 5]) (.int .i64 ((2 : Nat) : Int))).run Try.prog w = .ok (.agg #[.int .i64 25, .int .i64 7]) w := ixp 2 (by decide)
      go_wp2_with (fail)
      refine (Q.out _ hw (by decide) (by decide) (by decide)).mono ?_
      rintro e z1 ⟨rfl, m, rfl⟩
      go_wp2_with (first
        | go_skip
        | ((with_reducible refine at_st 26 ?_); refine L_store_int 3 (.tmp 26) (.tmp 25) rfl (by kernel_rfl) (zz.heap.size + 1) 2 rfl (aps w 2) 108 (show (World.drewN (wr.alloc _) m).heap[zz.heap.size + 1]? = _ from heap_old H3.out _) .i64 (r : Int) rfl info_int1 (show 2 < 6 by decide) ?_))
      intro wA bA uA zA
      have V := Lib.hid (((U.out.alloc _).drewN m).then uA (fun x hx hlt => by simp at hx; omega))
      have K2 := Lib.hid (uA.keep (show (World.drewN (wr.alloc _) m).heap[zz.heap.size]? = _ from heap_old H2.out _) (by simp))
      have K3 : Hid (wA.heap[zz.heap.size + 1]? = some (.cells ((aps w 3)).toArray 108 (0, 0))) := Lib.hid (by rw [bA, HR.out]; rfl)
      clear bA uA zA Q
      go_wp2_with (fail)
      go_roundg (6 - 3)
      case measure => omega
      case rel => exact ⟨3, rfl, by omega, rfl, K2, K3, V⟩
    · skip
      obtain ⟨r, hr⟩ : ∃ r, r = fb w 7 5 := ⟨_, rfl⟩
      have hr2 : r < 2 ^ 32 := by rw [hr]; exact fb_lt32 w 7 5 (by decide)
      have HR := Lib.hid hr
      have hQ := fBits_calls w 7 5
      rw [← hr] at hQ
      have Q := Lib.hid hQ
      have p4 : IntKind.i64.wrap (r : Int) = (r : Int) := wrapi64 (by omega) (by omega)
      clear hr hQ
      have hx : ∀ w, (Instr.index 110 (.agg #[.int .i64 0, .int .i64 7, .int .i64 12, .int .i64 3, .int .i64 25, .int .i64 7, .int .i64 7, .int .i64 5, .int .i64 15, .int .i64 5, .int .i64 20, .int .i64 5]) (.int .i64 3)).run Try.prog w = .ok (.agg #[.int .i64 7, .int .i64 5]) w := ixp 3 (by decide)
      have hy : ∀ w, (Instr.index 110 (.agg #[.int .i64 0, .int .i64 7, .int .i64 12, .int .i64 3, .int .i64 25, .int .i64 7, .int .i64 7, .int .i64 5, .int .i64 15, .int .i64 5, .int .i64 20, .int .i64 5]) (.int .i64 ((3 : Nat) : Int))).run Try.prog w = .ok (.agg #[.int .i64 7, .int .i64 5]) w := ixp 3 (by decide)
      go_wp2_with (fail)
      refine (Q.out _ hw (by decide) (by decide) (by decide)).mono ?_
      rintro e z1 ⟨rfl, m, rfl⟩
      go_wp2_with (first
        | go_skip
        | ((with_reducible refine at_st 26 ?_); refine L_store_int 3 (.tmp 26) (.tmp 25) rfl (by kernel_rfl) (zz.heap.size + 1) 3 rfl (aps w 3) 108 (show (World.drewN (wr.alloc _) m).heap[zz.heap.size + 1]? = _ from heap_old H3.out _) .i64 (r : Int) rfl info_int1 (show 3 < 6 by decide) ?_))
      intro wA bA uA zA
      have V := Lib.hid (((U.out.alloc _).drewN m).then uA (fun x hx hlt => by simp at hx; omega))
      have K2 := Lib.hid (uA.keep (show (World.drewN (wr.alloc _) m).heap[zz.heap.size]? = _ from heap_old H2.out _) (by simp))
      have K3 : Hid (wA.heap[zz.heap.size + 1]? = some (.cells ((aps w 4)).toArray 108 (0, 0))) := Lib.hid (by rw [bA, HR.out]; rfl)
      clear bA uA zA Q
      go_wp2_with (fail)
      go_roundg (6 - 4)
      case measure => omega
      case rel => exact ⟨4, rfl, by omega, rfl, K2, K3, V⟩
    · skip
      obtain ⟨r, hr⟩ : ∃ r, r = fb w 15 5 := ⟨_, rfl⟩
      have hr2 : r < 2 ^ 32 := by rw [hr]; exact fb_lt32 w 15 5 (by decide)
      have HR := Lib.hid hr
      have hQ := fBits_calls w 15 5
      rw [← hr] at hQ
      have Q := Lib.hid hQ
      have p4 : IntKind.i64.wrap (r : Int) = (r : Int) := wrapi64 (by omega) (by omega)
      clear hr hQ
      have hx : ∀ w, (Instr.index 110 (.agg #[.int .i64 0, .int .i64 7, .int .i64 12, .int .i64 3, .int .i64 25, .int .i64 7, .int .i64 7, .int .i64 5, .int .i64 15, .int .i64 5, .int .i64 20, .int .i64 5]) (.int .i64 4)).run Try.prog w = .ok (.agg #[.int .i64 15, .int .i64 5]) w := ixp 4 (by decide)
      have hy : ∀ w, (Instr.index 110 (.agg #[.int .i64 0, .int .i64 7, .int .i64 12, .int .i64 3, .int .i64 25, .int .i64 7, .int .i64 7, .int .i64 5, .int .i64 15, .int .i64 5, .int .i64 20, .int .i64 5]) (.int .i64 ((4 : Nat) : Int))).run Try.prog w = .ok (.agg #[.int .i64 15, .int .i64 5]) w := ixp 4 (by decide)
      go_wp2_with (fail)
      refine (Q.out _ hw (by decide) (by decide) (by decide)).mono ?_
      rintro e z1 ⟨rfl, m, rfl⟩
      go_wp2_with (first
        | go_skip
        | ((with_reducible refine at_st 26 ?_); refine L_store_int 3 (.tmp 26) (.tmp 25) rfl (by kernel_rfl) (zz.heap.size + 1) 4 rfl (aps w 4) 108 (show (World.drewN (wr.alloc _) m).heap[zz.heap.size + 1]? = _ from heap_old H3.out _) .i64 (r : Int) rfl info_int1 (show 4 < 6 by decide) ?_))
      intro wA bA uA zA
      have V := Lib.hid (((U.out.alloc _).drewN m).then uA (fun x hx hlt => by simp at hx; omega))
      have K2 := Lib.hid (uA.keep (show (World.drewN (wr.alloc _) m).heap[zz.heap.size]? = _ from heap_old H2.out _) (by simp))
      have K3 : Hid (wA.heap[zz.heap.size + 1]? = some (.cells ((aps w 5)).toArray 108 (0, 0))) := Lib.hid (by rw [bA, HR.out]; rfl)
      clear bA uA zA Q
      go_wp2_with (fail)
      go_roundg (6 - 5)
      case measure => omega
      case rel => exact ⟨5, rfl, by omega, rfl, K2, K3, V⟩
    · skip
      obtain ⟨r, hr⟩ : ∃ r, r = fb w 20 5 := ⟨_, rfl⟩
      have hr2 : r < 2 ^ 32 := by rw [hr]; exact fb_lt32 w 20 5 (by decide)
      have HR := Lib.hid hr
      have hQ := fBits_calls w 20 5
      rw [← hr] at hQ
      have Q := Lib.hid hQ
      have p4 : IntKind.i64.wrap (r : Int) = (r : Int) := wrapi64 (by omega) (by omega)
      clear hr hQ
      have hx : ∀ w, (Instr.index 110 (.agg #[.int .i64 0, .int .i64 7, .int .i64 12, .int .i64 3, .int .i64 25, .int .i64 7, .int .i64 7, .int .i64 5, .int .i64 15, .int .i64 5, .int .i64 20, .int .i64 5]) (.int .i64 5)).run Try.prog w = .ok (.agg #[.int .i64 20, .int .i64 5]) w := ixp 5 (by decide)
      have hy : ∀ w, (Instr.index 110 (.agg #[.int .i64 0, .int .i64 7, .int .i64 12, .int .i64 3, .int .i64 25, .int .i64 7, .int .i64 7, .int .i64 5, .int .i64 15, .int .i64 5, .int .i64 20, .int .i64 5]) (.int .i64 ((5 : Nat) : Int))).run Try.prog w = .ok (.agg #[.int .i64 20, .int .i64 5]) w := ixp 5 (by decide)
      go_wp2_with (fail)
      refine (Q.out _ hw (by decide) (by decide) (by decide)).mono ?_
      rintro e z1 ⟨rfl, m, rfl⟩
      go_wp2_with (first
        | go_skip
        | ((with_reducible refine at_st 26 ?_); refine L_store_int 3 (.tmp 26) (.tmp 25) rfl (by kernel_rfl) (zz.heap.size + 1) 5 rfl (aps w 5) 108 (show (World.drewN (wr.alloc _) m).heap[zz.heap.size + 1]? = _ from heap_old H3.out _) .i64 (r : Int) rfl info_int1 (show 5 < 6 by decide) ?_))
      intro wA bA uA zA
      have V := Lib.hid (((U.out.alloc _).drewN m).then uA (fun x hx hlt => by simp at hx; omega))
      have K2 := Lib.hid (uA.keep (show (World.drewN (wr.alloc _) m).heap[zz.heap.size]? = _ from heap_old H2.out _) (by simp))
      have K3 : Hid (wA.heap[zz.heap.size + 1]? = some (.cells ((aps w 6)).toArray 108 (0, 0))) := Lib.hid (by rw [bA, HR.out]; rfl)
      clear bA uA zA Q
      go_wp2_with (fail)
      go_roundg (6 - 6)
      case measure => omega
      case rel => exact ⟨6, rfl, by omega, rfl, K2, K3, V⟩
    · have c := cells_of H3.out
      have c0 : wr.cell? ⟨zz.heap.size + 1, 0, none⟩ = some (.int .i64 (fb w 0 7 : Int)) := by rw [c]; rfl
      have c1 : wr.cell? ⟨zz.heap.size + 1, 1, none⟩ = some (.int .i64 (fb w 12 3 : Int)) := by rw [c]; rfl
      have c2 : wr.cell? ⟨zz.heap.size + 1, 2, none⟩ = some (.int .i64 (fb w 25 7 : Int)) := by rw [c]; rfl
      have c3 : wr.cell? ⟨zz.heap.size + 1, 3, none⟩ = some (.int .i64 (fb w 7 5 : Int)) := by rw [c]; rfl
      have c4 : wr.cell? ⟨zz.heap.size + 1, 4, none⟩ = some (.int .i64 (fb w 15 5 : Int)) := by rw [c]; rfl
      have c5 : wr.cell? ⟨zz.heap.size + 1, 5, none⟩ = some (.int .i64 (fb w 20 5 : Int)) := by rw [c]; rfl
      clear c
      go_wp2_with (first
        | go_skip
        | ((with_reducible refine at_st 2 ?_); refine L_store_row 99 (.tmp 2) (.tmp 41) rfl (by kernel_rfl) zz.heap.size 0 rfl (partsArr 0 0 0 0 0 0 0).toList 99 H2.out (partsArr w (fb w 0 7) (fb w 12 3) (fb w 25 7) (fb w 7 5) (fb w 15 5) (fb w 20 5)) rfl 7 info_parts rfl (by decide) (by simp [partsArr, Value.oneCell']) ?_))
      intro wA bA uA zA
      rw [spl_all (by rfl)] at bA
      go_wp2_with (fail)
      refine bodyPost_ret (results_cell_row rfl _ _ zz.heap.size 99 (partsArr w (fb w 0 7) (fb w 12 3) (fb w 25 7) (fb w 7 5) (fb w 15 5) (fb w 20 5)) _ _ rfl bA Try.underlying99 rfl info_parts) rfl ⟨rfl, ?_⟩
      exact U.out.then uA (fun x hx hlt => by simp at hx; omega)
end Go.Proofs.Ytggjmdgonjhioaa
