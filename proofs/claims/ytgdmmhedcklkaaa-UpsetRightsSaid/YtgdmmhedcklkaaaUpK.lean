/- The law's 'known': it is always true. -/
import Derived.Test.YtgdmmhedcklkaaaUpJ
namespace Go.Proofs.Ytgdmmhedcklkaaa
open Go.RowKit Go.Dio
set_option linter.unusedSimpArgs false
set_option linter.unusedVariables false

theorem upsAt_blk {w : World} {b : Nat} {l : List UpV} {T : TypeId} {fr : Nat × Nat} (h : w.heap[b]? = some (.cells (upVals l).toArray T fr)) : UpsAt w (some ⟨b, 0, none⟩) l := fun _ =>
  ⟨b, 0, rfl, lt_of_block h, fun i hi => by
    obtain ⟨h1, h2⟩ := upVals_at l i hi
    constructor
    · rw [cell_of_row w b _ _ T fr h]; simpa using h1
    · rw [cell_of_row w b _ _ T fr h]; simpa using h2⟩
theorem k_srt : srt [(9, 1), (3, 8), (9, 0)] = [(3, 8), (9, 0), (9, 1)] := by decide
theorem k_sp0 : spaced [] = true := rfl
theorem k_sp1 : spaced [(5, 0), (5, 0)] = false := by decide +kernel
theorem k_sp2 : spaced [(8192, 0), (0, 0)] = true := by decide +kernel
theorem k_r0 : rightE [] 0 0 = 0 := rfl
theorem k_r1 : rightE [(0, 3)] 3 9 = 23 := by decide
def z65 : List UpV := List.replicate 65 (0, 0)
theorem k_r2 : rightE z65 9 9 = 3 := by decide
theorem k_a1 : (ats 9 (srt [(3, 8), (9, 0), (9, 1)])).length = 2 := by decide
theorem k_a2 : (ats 4 (srt [(3, 8), (9, 0), (9, 1)])).length = 0 := by decide
set_option maxRecDepth 20000 in
set_option maxHeartbeats 4000000 in
theorem known_calls22 (w : World) : Calls Try.prog 12 #[] w fun e w' => e = .returned (.bool true) ∧ Upd [] w w' := by
  obtain ⟨i0, hi, hz0, hz1, hz2⟩ : ∃ i, Try.prog.info? 37 = some i ∧ i.zero = some (.agg #[.int .i64 0, .int .i64 0]) ∧ i.size = 2 ∧ i.bytes = 16 := by
    have hi := info_up
    cases hq : Try.prog.info? 37 with
    | none => simp [hq] at hi
    | some i => simp [hq] at hi; exact ⟨i, rfl, hi.1, hi.2.1, hi.2.2⟩
  have hmk : ∀ u : World, (Instr.makeSlice 35 (.int .i64 65) (.int .i64 65)).run Try.prog u =
      .ok (.slice (some ⟨u.heap.size, 0, none⟩) 65 65) (u.alloc (.cells (upVals z65).toArray 37)) := fun u => by
    have h := run_make (P := Try.prog) u 35 37 i0 (.agg #[.int .i64 0, .int .i64 0]) Try.underlying35 hi hz0 .i64 .i64 65 65 (by omega) (Int.le_refl _) (by rw [hz2]; decide) (by decide)
    have e : (65 : Int).toNat = 65 := rfl
    rw [e] at h
    rw [h, hz1, show madeCells (Value.agg #[.int .i64 0, .int .i64 0]).cells (65 * 2) = (upVals z65).toArray by kernel_rfl]
  have MK := Lib.hid hmk
  clear hmk hi hz0 hz1 hz2
  go_enter Try.func12, Try.ntmps12
  go_wp2_with (fail)
  have z1 : (w.alloc (.cells (upVals [(9, 1), (3, 8), (9, 0)]).toArray 37)).heap[w.heap.size]? = some (.cells (upVals [(9, 1), (3, 8), (9, 0)]).toArray 37 (0, 0)) := Go.heap_alloc_last w _
  refine (Sort_calls (some ⟨w.heap.size, 0, none⟩) [(9, 1), (3, 8), (9, 0)] 3 (w.alloc (.cells (upVals [(9, 1), (3, 8), (9, 0)]).toArray 37)) (upsAt_blk z1) (by decide)).mono ?_
  rintro e w1 ⟨B, cap, rfl, u1, h1, h2, h3⟩
  rw [k_srt] at h3
  have U1 := Lib.hid (((Upd.refl [] w).alloc _).trans u1)
  have H1 := Lib.hid h3
  clear u1 h3 z1
  go_wp2_with (fail)
  refine (Spaced_calls none [] 0 w1 (upsAt_nil _ _) (by decide)).mono ?_
  rintro e w2 ⟨rfl, u2⟩
  rw [k_sp0]
  have U2 := Lib.hid u2
  clear u2
  go_wp2_with (fail)
  have z3 : (w2.alloc (.cells (upVals [(5, 0), (5, 0)]).toArray 37)).heap[w2.heap.size]? = some (.cells (upVals [(5, 0), (5, 0)]).toArray 37 (0, 0)) := Go.heap_alloc_last w2 _
  refine (Spaced_calls (some ⟨w2.heap.size, 0, none⟩) [(5, 0), (5, 0)] 2 (w2.alloc (.cells (upVals [(5, 0), (5, 0)]).toArray 37)) (upsAt_blk z3) (by decide)).mono ?_
  rintro e w3 ⟨rfl, u3⟩
  rw [k_sp1]
  have U3 := Lib.hid ((U2.out.alloc _).trans u3)
  clear u3 z3
  go_wp2_with (fail)
  have z3 : (w3.alloc (.cells (upVals [(8192, 0), (0, 0)]).toArray 37)).heap[w3.heap.size]? = some (.cells (upVals [(8192, 0), (0, 0)]).toArray 37 (0, 0)) := Go.heap_alloc_last w3 _
  refine (Spaced_calls (some ⟨w3.heap.size, 0, none⟩) [(8192, 0), (0, 0)] 2 (w3.alloc (.cells (upVals [(8192, 0), (0, 0)]).toArray 37)) (upsAt_blk z3) (by decide)).mono ?_
  rintro e w4 ⟨rfl, u3⟩
  rw [k_sp2]
  have U4 := Lib.hid ((U3.out.alloc _).trans u3)
  clear u3 z3
  go_wp2_with (fail)
  refine (Right_calls none [] 0 0 0 w4 (upsAt_nil _ _) (by decide)).mono ?_
  rintro e w5 ⟨rfl, u5⟩
  rw [k_r0]
  have U5 := Lib.hid (U4.out.trans u5)
  clear u5
  go_wp2_with (fail)
  have z6 : (w5.alloc (.cells (upVals [(0, 3)]).toArray 37)).heap[w5.heap.size]? = some (.cells (upVals [(0, 3)]).toArray 37 (0, 0)) := Go.heap_alloc_last w5 _
  refine (Right_calls (some ⟨w5.heap.size, 0, none⟩) [(0, 3)] 1 3 9 (w5.alloc (.cells (upVals [(0, 3)]).toArray 37)) (upsAt_blk z6) (by decide)).mono ?_
  rintro e w6 ⟨rfl, u6⟩
  rw [k_r1]
  have U6 := Lib.hid ((U5.out.alloc _).trans u6)
  clear u6 z6
  have hmk := MK.out
  go_wp2_with (fail)
  have z7 := Go.heap_alloc_last w6 (.cells (upVals z65).toArray 37)
  refine (Right_calls (some ⟨w6.heap.size, 0, none⟩) z65 65 9 9 _ (upsAt_blk z7) (by decide)).mono ?_
  rintro e w7 ⟨rfl, u7⟩
  rw [k_r2]
  have U7 := Lib.hid ((U6.out.alloc _).trans u7)
  clear u7 z7 hmk MK
  obtain ⟨b, o, rfl, hb, hc⟩ := (H1.out.of_upd U7.out) (by decide)
  have c1 : w7.cell? ⟨b, o, none⟩ = some (.int .i64 3) := (hc 0 (by decide)).1
  have c2 : w7.cell? ⟨b, o + 2 + 1, none⟩ = some (.int .i64 0) := (hc 1 (by decide)).2
  have c3 : w7.cell? ⟨b, o + 3, none⟩ = some (.int .i64 0) := c2
  have H7 := Lib.hid (H1.out.of_upd U7.out)
  clear hc
  go_wp2_with (fail)
  refine (At_calls (some ⟨b, o, none⟩) [(3, 8), (9, 0), (9, 1)] cap 9 w7 H7.out (by decide)).mono ?_
  rintro e w8 ⟨B8, cap8, rfl, h8, h82, h83, u8⟩
  rw [k_a1]
  have H8 := Lib.hid (H7.out.of_upd u8)
  have U8 := Lib.hid (U7.out.trans u8)
  clear u8 h8 h83 H7 c1 c2 c3
  go_wp2_with (fail)
  refine (At_calls (some ⟨b, o, none⟩) [(3, 8), (9, 0), (9, 1)] cap 4 w8 H8.out (by decide)).mono ?_
  rintro e w9 ⟨B9, cap9, rfl, h9, h92, h93, u9⟩
  rw [k_a2]
  have U9 := Lib.hid (U8.out.trans u9)
  clear u9 h9 h93 H8
  go_wp2_with (fail)
  go_ret
  exact ⟨rfl, U1.out.trans U9.out⟩
end Go.Proofs.Ytgdmmhedcklkaaa
