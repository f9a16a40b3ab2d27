/- Law 12: what is known, and when rows and states are compared as the document says. -/
import Derived.Test.YtgdmmhedcklkaaaFst2
import Derived.Test.YtgdmmhedcklkaaaStR
namespace Go.Proofs.Ytgdmmhedcklkaaa
open Go.RowKit Go.Dio

def kA : RetV := ⟨4, 0, 0, false, 0, 0, 0⟩
def kB : RetV := ⟨8, 0, 0, false, 0, 0, 0⟩

theorem bcell {W w1 : World} (hb : Below W.heap.size W w1) : (∀ b o, b < W.heap.size → w1.cell? ⟨b, o, none⟩ = W.cell? ⟨b, o, none⟩) ∧ (∀ b o, b < W.heap.size → w1.frozen? ⟨b, o, none⟩ = W.frozen? ⟨b, o, none⟩) :=
  ⟨fun b o h => hb.cell (p := ⟨b, o, none⟩) h, fun b o h => hb.frozen (p := ⟨b, o, none⟩) h⟩

theorem fold_arr (r : RetV) : Array.foldl (fun (cs : Array Value) (x : Value × Nat) => cs.setIfInBounds x.snd x.fst) #[.int .u32 0, .int .u32 0, .int .i64 0, .bool false, .int .u32 0, .int .u32 0, .int .i64 0] r.arr.zipIdx 0 7 = r.arr := by kernel_rfl

theorem fold_arr2 (r s : RetV) : Array.foldl (fun (cs : Array Value) (x : Value × Nat) => cs.setIfInBounds (7 + x.snd) x.fst) (Array.foldl (fun (cs : Array Value) (x : Value × Nat) => cs.setIfInBounds x.snd x.fst)
    #[.int .u32 0, .int .u32 0, .int .i64 0, .bool false, .int .u32 0, .int .u32 0, .int .i64 0, .int .u32 0, .int .u32 0, .int .i64 0, .bool false, .int .u32 0, .int .u32 0, .int .i64 0] r.arr.zipIdx 0 7) s.arr.zipIdx 0 7 = r.arr ++ s.arr := by kernel_rfl

theorem stOK (pc : Nat) (w : World) : StV.OK ⟨pc, List.replicate 32 0, List.replicate 5 0, none, [], 0⟩ w := ⟨by simp, by simp, numsAt_nil _ _ _, by simp, by simp⟩

set_option maxHeartbeats 2000000 in
theorem known_calls (w : World) : Calls Try.prog 10 #[] w fun e w' => e = .returned (.bool true) ∧ Below w.heap.size w w' := by
  go_enter Try.func10, Try.ntmps10
  go_upto_region 2 with (fail)
  obtain ⟨W, hW⟩ : ∃ W, W = (w.alloc (.cells kA.arr 24)).alloc (.cells kB.arr 24) := ⟨_, rfl⟩
  have lA0 : W.rangeAt w.heap.size 0 kA.arr.toList := by rw [hW]; exact row_range (heap_old (Go.heap_alloc_last _ _) _)
  have lB0 : W.rangeAt (w.heap.size + 1) 0 kB.arr.toList := by rw [hW]; exact row_range (by simpa using Go.heap_alloc_last (w.alloc (.cells kA.arr 24)) (.cells kB.arr 24))
  have zW : w.heap.size + 2 ≤ W.heap.size := by rw [hW]; simp
  have bW : Below w.heap.size w W := by rw [hW]; exact ((Below.refl _ _).alloc (Nat.le_refl _) _).alloc (by simp) _
  change Code.wp _ _ _ _ ((w.alloc (.cells kA.arr 24)).alloc (.cells kB.arr 24))
  rw [← hW]
  clear hW
  have d1 : decide (kA = kA) = true := rfl
  have d2 : decide (kA = kB) = false := rfl
  have hfold := fold_arr
  have hfold2 := fold_arr2
  have sA : kA.arr.size = 7 := rfl
  have sB : kB.arr.size = 7 := rfl
  have d3 : pre [] [1] = true := rfl
  have d4 : pre [1] [] = false := rfl
  have d5 : fd 0 [kA] [kA] = -1 := rfl
  have d6 : fd 0 [kA] [kA, kB] = 1 := rfl
  have d7 : stEq ⟨1, List.replicate 32 0, List.replicate 5 0, none, [], 0⟩ ⟨0, List.replicate 32 0, List.replicate 5 0, none, [], 0⟩ = false := rfl
  have d8 : stEq ⟨0, List.replicate 32 0, List.replicate 5 0, none, [], 0⟩ ⟨0, List.replicate 32 0, List.replicate 5 0, none, [], 0⟩ = true := rfl
  have U := Upd.refl [] W
  have lA := lA0
  have lB := lB0
  go_wp2_with (first
    | go_skip
    | (refine L_load 24 (.tmp 1) rfl (by kernel_rfl) _ _ rfl kA.arr (by first | exact lA | exact World.rangeAt_alloc lA _ | exact World.rangeAt_alloc (World.rangeAt_alloc lA _) _) Try.underlying24 rfl 7 info_ret (RetV.arr_size _) ?_)
    | (refine L_load 24 (.tmp 2) rfl (by kernel_rfl) _ _ rfl kB.arr (by first | exact lB | exact World.rangeAt_alloc lB _ | exact World.rangeAt_alloc (World.rangeAt_alloc lB _) _) Try.underlying24 rfl 7 info_ret (RetV.arr_size _) ?_))
  refine (Same_calls kA kA _).mono ?_
  rintro e w1 ⟨rfl, h⟩
  replace U : Upd [] W w1 := by first | exact U.trans (Upd.of_below h) | exact (U.alloc _).trans (Upd.of_below h) | exact ((U.alloc _).alloc _).trans (Upd.of_below h)
  replace lA := rangeAt_upd lA0 (by omega) U
  replace lB := rangeAt_upd lB0 (by omega) U
  clear h
  go_wp2_with (first
    | go_skip
    | (refine L_load 24 (.tmp 1) rfl (by kernel_rfl) _ _ rfl kA.arr (by first | exact lA | exact World.rangeAt_alloc lA _ | exact World.rangeAt_alloc (World.rangeAt_alloc lA _) _) Try.underlying24 rfl 7 info_ret (RetV.arr_size _) ?_)
    | (refine L_load 24 (.tmp 2) rfl (by kernel_rfl) _ _ rfl kB.arr (by first | exact lB | exact World.rangeAt_alloc lB _ | exact World.rangeAt_alloc (World.rangeAt_alloc lB _) _) Try.underlying24 rfl 7 info_ret (RetV.arr_size _) ?_))
  refine (Same_calls kA kB _).mono ?_
  rintro e w2 ⟨rfl, h⟩
  replace U : Upd [] W w2 := by first | exact U.trans (Upd.of_below h) | exact (U.alloc _).trans (Upd.of_below h) | exact ((U.alloc _).alloc _).trans (Upd.of_below h)
  replace lA := rangeAt_upd lA0 (by omega) U
  replace lB := rangeAt_upd lB0 (by omega) U
  clear h
  go_wp2_with (first
    | go_skip
    | (refine L_load 24 (.tmp 1) rfl (by kernel_rfl) _ _ rfl kA.arr (by first | exact lA | exact World.rangeAt_alloc lA _ | exact World.rangeAt_alloc (World.rangeAt_alloc lA _) _) Try.underlying24 rfl 7 info_ret (RetV.arr_size _) ?_)
    | (refine L_load 24 (.tmp 2) rfl (by kernel_rfl) _ _ rfl kB.arr (by first | exact lB | exact World.rangeAt_alloc lB _ | exact World.rangeAt_alloc (World.rangeAt_alloc lB _) _) Try.underlying24 rfl 7 info_ret (RetV.arr_size _) ?_))
  refine (Prefix_calls none (some ⟨w2.heap.size, 0, none⟩) [] [1] 0 1 _ (numsAt_nil _ _ _) (numsAt_new w2 .u32 [1] _) (by simp) (by simp)).mono ?_
  rintro e w3 ⟨rfl, h⟩
  replace U : Upd [] W w3 := by first | exact U.trans (Upd.of_below h) | exact (U.alloc _).trans (Upd.of_below h) | exact ((U.alloc _).alloc _).trans (Upd.of_below h)
  replace lA := rangeAt_upd lA0 (by omega) U
  replace lB := rangeAt_upd lB0 (by omega) U
  clear h
  go_wp2_with (first
    | go_skip
    | (refine L_load 24 (.tmp 1) rfl (by kernel_rfl) _ _ rfl kA.arr (by first | exact lA | exact World.rangeAt_alloc lA _ | exact World.rangeAt_alloc (World.rangeAt_alloc lA _) _) Try.underlying24 rfl 7 info_ret (RetV.arr_size _) ?_)
    | (refine L_load 24 (.tmp 2) rfl (by kernel_rfl) _ _ rfl kB.arr (by first | exact lB | exact World.rangeAt_alloc lB _ | exact World.rangeAt_alloc (World.rangeAt_alloc lB _) _) Try.underlying24 rfl 7 info_ret (RetV.arr_size _) ?_))
  refine (Prefix_calls (some ⟨w3.heap.size, 0, none⟩) none [1] [] 1 0 _ (numsAt_new w3 .u32 [1] _) (numsAt_nil _ _ _) (by simp) (by simp)).mono ?_
  rintro e w4 ⟨rfl, h⟩
  replace U : Upd [] W w4 := by first | exact U.trans (Upd.of_below h) | exact (U.alloc _).trans (Upd.of_below h) | exact ((U.alloc _).alloc _).trans (Upd.of_below h)
  replace lA := rangeAt_upd lA0 (by omega) U
  replace lB := rangeAt_upd lB0 (by omega) U
  clear h
  go_wp2_with (first
    | go_skip
    | (refine L_load 24 (.tmp 1) rfl (by kernel_rfl) _ _ rfl kA.arr (by first | exact lA | exact World.rangeAt_alloc lA _ | exact World.rangeAt_alloc (World.rangeAt_alloc lA _) _) Try.underlying24 rfl 7 info_ret (RetV.arr_size _) ?_)
    | (refine L_load 24 (.tmp 2) rfl (by kernel_rfl) _ _ rfl kB.arr (by first | exact lB | exact World.rangeAt_alloc lB _ | exact World.rangeAt_alloc (World.rangeAt_alloc lB _) _) Try.underlying24 rfl 7 info_ret (RetV.arr_size _) ?_))
  refine (First_calls (some ⟨w4.heap.size, 0, none⟩) (some ⟨w4.heap.size + 1, 0, none⟩) [kA] [kA] 1 1 _ ((retsAt_new1 w4 kA _).of_upd ((Upd.refl _ _).alloc _)) (by simpa using retsAt_new1 (w4.alloc (.cells kA.arr 24)) kA 24) (by simp) (by simp)).mono ?_
  rintro e w5 ⟨rfl, h⟩
  replace U : Upd [] W w5 := by first | exact U.trans (Upd.of_below h) | exact (U.alloc _).trans (Upd.of_below h) | exact ((U.alloc _).alloc _).trans (Upd.of_below h)
  replace lA := rangeAt_upd lA0 (by omega) U
  replace lB := rangeAt_upd lB0 (by omega) U
  clear h
  go_wp2_with (first
    | go_skip
    | (refine L_load 24 (.tmp 1) rfl (by kernel_rfl) _ _ rfl kA.arr (by first | exact lA | exact World.rangeAt_alloc lA _ | exact World.rangeAt_alloc (World.rangeAt_alloc lA _) _) Try.underlying24 rfl 7 info_ret (RetV.arr_size _) ?_)
    | (refine L_load 24 (.tmp 2) rfl (by kernel_rfl) _ _ rfl kB.arr (by first | exact lB | exact World.rangeAt_alloc lB _ | exact World.rangeAt_alloc (World.rangeAt_alloc lB _) _) Try.underlying24 rfl 7 info_ret (RetV.arr_size _) ?_))
  refine (First_calls (some ⟨w5.heap.size, 0, none⟩) (some ⟨w5.heap.size + 1, 0, none⟩) [kA] [kA, kB] 1 2 _ ((retsAt_new1 w5 kA _).of_upd ((Upd.refl _ _).alloc _)) (by simpa using retsAt_new2 (w5.alloc (.cells kA.arr 24)) kA kB 24) (by simp) (by simp)).mono ?_
  rintro e w6 ⟨rfl, h⟩
  replace U : Upd [] W w6 := by first | exact U.trans (Upd.of_below h) | exact (U.alloc _).trans (Upd.of_below h) | exact ((U.alloc _).alloc _).trans (Upd.of_below h)
  replace lA := rangeAt_upd lA0 (by omega) U
  replace lB := rangeAt_upd lB0 (by omega) U
  clear h
  go_wp2_with (first
    | go_skip
    | (refine L_load 24 (.tmp 1) rfl (by kernel_rfl) _ _ rfl kA.arr (by first | exact lA | exact World.rangeAt_alloc lA _ | exact World.rangeAt_alloc (World.rangeAt_alloc lA _) _) Try.underlying24 rfl 7 info_ret (RetV.arr_size _) ?_)
    | (refine L_load 24 (.tmp 2) rfl (by kernel_rfl) _ _ rfl kB.arr (by first | exact lB | exact World.rangeAt_alloc lB _ | exact World.rangeAt_alloc (World.rangeAt_alloc lB _) _) Try.underlying24 rfl 7 info_ret (RetV.arr_size _) ?_))
  refine (States_calls ⟨1, List.replicate 32 0, List.replicate 5 0, none, [], 0⟩ ⟨0, List.replicate 32 0, List.replicate 5 0, none, [], 0⟩ _ (stOK _ _) (stOK _ _)).mono ?_
  rintro e w7 ⟨rfl, h⟩
  replace U : Upd [] W w7 := by first | exact U.trans (Upd.of_below h) | exact (U.alloc _).trans (Upd.of_below h) | exact ((U.alloc _).alloc _).trans (Upd.of_below h)
  replace lA := rangeAt_upd lA0 (by omega) U
  replace lB := rangeAt_upd lB0 (by omega) U
  clear h
  go_wp2_with (first
    | go_skip
    | (refine L_load 24 (.tmp 1) rfl (by kernel_rfl) _ _ rfl kA.arr (by first | exact lA | exact World.rangeAt_alloc lA _ | exact World.rangeAt_alloc (World.rangeAt_alloc lA _) _) Try.underlying24 rfl 7 info_ret (RetV.arr_size _) ?_)
    | (refine L_load 24 (.tmp 2) rfl (by kernel_rfl) _ _ rfl kB.arr (by first | exact lB | exact World.rangeAt_alloc lB _ | exact World.rangeAt_alloc (World.rangeAt_alloc lB _) _) Try.underlying24 rfl 7 info_ret (RetV.arr_size _) ?_))
  refine (States_calls ⟨0, List.replicate 32 0, List.replicate 5 0, none, [], 0⟩ ⟨0, List.replicate 32 0, List.replicate 5 0, none, [], 0⟩ _ (stOK _ _) (stOK _ _)).mono ?_
  rintro e w8 ⟨rfl, h⟩
  replace U : Upd [] W w8 := by first | exact U.trans (Upd.of_below h) | exact (U.alloc _).trans (Upd.of_below h) | exact ((U.alloc _).alloc _).trans (Upd.of_below h)
  replace lA := rangeAt_upd lA0 (by omega) U
  replace lB := rangeAt_upd lB0 (by omega) U
  clear h
  go_wp2
  go_ret
  exact ⟨rfl, bW.trans (U.below.mono bW.size)⟩
end Go.Proofs.Ytgdmmhedcklkaaa
