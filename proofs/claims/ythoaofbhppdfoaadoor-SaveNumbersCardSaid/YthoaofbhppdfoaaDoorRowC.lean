/- Rows of protected words in memory: Scrub, Flip, New. -/
import Derived.Test.YthoaofbhppdfoaaDoorRowB
namespace Go.Proofs.YthoaofbhppdfoaaDoor
open Go.RowKit Go.Dio

theorem Scrub_calls (T : TypeId) (b d : Nat) (l : List Nat) (f : Nat) (i : Int) (w : World) (h : RowAt T b d l f w) (hf : f < 9223372036854775806) :
    Calls Tryd.prog 26 #[.pointer (some ⟨b, 0, none⟩), .int .i64 i] w fun e w' => e = .returned (.int .i64 ((peekL l i).2 : Int)) ∧ RowAt T b d (getL l i) (f + getF l i) w' ∧ Upd [b, d] w w' := by
  have G := Lib.hid (Get_calls T b d l f i w h hf)
  clear h
  obtain ⟨y, z, hyz⟩ : ∃ y z, peekL l i = (y, z) := ⟨_, _, rfl⟩
  rw [hyz] at G ⊢
  go_enter Tryd.func26, Tryd.ntmps26
  go_wp2_with (fail)
  refine G.out.mono ?_
  rintro e w1 ⟨rfl, hr⟩
  go_wp2_with (fail)
  go_ret
  exact ⟨rfl, hr⟩

set_option maxHeartbeats 1000000 in
theorem Flip_in (T : TypeId) (b d : Nat) (l : List Nat) (f c : Nat) (w : World) (h : RowAt T b d l f w) (hc : c < 39 * l.length) :
    Calls Tryd.prog 28 #[.pointer (some ⟨b, 0, none⟩), .int .i64 (c : Int)] w fun e w' => e = .returned (.bool true) ∧ RowAt T b d (l.set (c / 39) (nth l (c / 39) ^^^ 2 ^ (c % 39))) f w' ∧ Upd [d] w w' := by
  have H := Lib.hid h
  have hlen := h.len
  have B := Lib.hid (Bits_calls T b d l f w h)
  obtain ⟨k, hk⟩ : ∃ k, k = c / 39 := ⟨_, rfl⟩
  obtain ⟨m, hm⟩ : ∃ m, m = c % 39 := ⟨_, rfl⟩
  rw [← hk, ← hm]
  have hkl : k < l.length := by omega
  have hml : m < 39 := by omega
  have q1 : (c : Int) / 39 = (k : Int) := by omega
  have q2 : (c : Int) % 39 = (m : Int) := by omega
  have q3 : (c : Int).tdiv 39 = (k : Int) := by rw [Int.tdiv_eq_ediv_of_nonneg (by omega)]; exact q1
  have q4 : (c : Int).tmod 39 = (m : Int) := by rw [Int.tmod_eq_emod_of_nonneg (by omega)]; exact q2
  have hlt : decide (((l.length : Int) * 39) ≤ (c : Int)) = false := by rw [decide_eq_false_iff_not]; omega
  have hsm := nth_lt h.small (by decide) k
  have hp := pow64 m (by omega)
  have hx := xor_pow (nth l k) m hsm (by omega)
  have hxl : nth l k ^^^ 2 ^ m < 2 ^ 64 := Nat.xor_lt_two_pow hsm (pow_lt64 (by omega))
  have hy : ∀ x : Near [d] w, x.1.cell? ⟨b, 0, none⟩ = some (.slice (some ⟨d, 0, none⟩) l.length l.length) := fun x => by rw [cells_of (x.2.keep h.head (by simpa using h.ne))]; rfl
  clear h hk hm
  go_enter Tryd.func28, Tryd.ntmps28
  go_wp2_with (fail)
  refine B.out.mono ?_
  rintro e w1 ⟨rfl, rfl⟩
  go_wp2_with (fail)
  refine wp_region_plan (fun z => ∃ x : Near [d] w1, z = x.1) [([0, 1, 2, 3, 4, 5, 6, 8, 9, 10], 7), ([11, 12], 13)] [] (by kernel_rfl) (by kernel_rfl) (by kernel_rfl) (by kernel_rfl) (fun _ d _ _ _ h => by cases d <;> exact h) ⟨⟨w1.drew, (Upd.refl _ _).drew⟩, rfl⟩ ?_
  refine plan_next ?_
  simp only [opsAt, List.map_cons, List.map_nil, List.getElem?_toArray, List.getElem?_cons_zero, List.getElem?_cons_succ, Option.getD_some]
  repeat (go_big_quiet_step (fail))
  refine wpQuiet_nil ?_
  refine plan_one rfl ?_
  have U0 : Upd [] w1 w1.drew := (Upd.refl _ _).drew
  have H1 := Lib.hid (H.out.upd0 U0)
  have cd : w1.drew.cell? ⟨d, k, none⟩ = some (.int .u64 ((nth l k : Nat) : Int)) := by rw [cells_of H1.out.data]; exact nums_nth .u64 l k hkl
  have fd : w1.drew.frozen? ⟨d, k, none⟩ = false := free_of H1.out.data k
  go_wp2_with fail
  refine plan_same ⟨⟨_, U0.mono (by simp)⟩, rfl⟩ ?_
  refine plan_next ?_
  simp only [opsAt, List.map_cons, List.map_nil, List.getElem?_toArray, List.getElem?_cons_zero, List.getElem?_cons_succ, Option.getD_some]
  repeat (go_big_quiet_step (fail))
  refine wpQuiet_nil ?_
  refine plan_one rfl ?_
  go_wp2_with fail
  have U3 : Upd [d] w1 (w1.setCell ⟨d, k, none⟩ (.int .u64 ((nth l k ^^^ 2 ^ m : Nat) : Int))).drew := ((Upd.refl [d] w1).setCell (p := ⟨d, k, none⟩) (by simp) _).drew
  have H3 := Lib.hid ((H.out.set k _ hxl).upd0 (Upd.refl _ _).drew)
  generalize (w1.setCell ⟨d, k, none⟩ (.int .u64 ((nth l k ^^^ 2 ^ m : Nat) : Int))).drew = w3 at U3 H3 ⊢
  refine plan_same ⟨⟨w3, U3⟩, rfl⟩ ?_
  refine plan_last ?_
  simp only [opsAt, List.map_nil]
  refine wpQuiet_nil ?_
  unfold planEnd
  go_wp2_with fail
  go_ret
  exact ⟨rfl, H3.out, U3⟩

theorem Flip_out (T : TypeId) (b d : Nat) (l : List Nat) (f : Nat) (c : Int) (w : World) (h : RowAt T b d l f w) (hc : flipB l c = false) :
    Calls Tryd.prog 28 #[.pointer (some ⟨b, 0, none⟩), .int .i64 c] w fun e w' => e = .returned (.bool false) ∧ w' = w := by
  have B := Lib.hid (Bits_calls T b d l f w h)
  have hc' := of_decide_eq_false hc
  rcases Int.lt_or_le c 0 with h0 | h0
  · go_enter Tryd.func28, Tryd.ntmps28
    go_wp2_with (fail)
    go_ret
    exact ⟨rfl, rfl⟩
  · have hlt : decide (((l.length : Int) * 39) ≤ c) = true := by rw [decide_eq_true_iff]; omega
    have hlt2 : ((l.length : Int) * 39) ≤ c := by omega
    clear hc hc'
    go_enter Tryd.func28, Tryd.ntmps28
    go_wp2_with (fail)
    refine B.out.mono ?_
    rintro e w1 ⟨rfl, rfl⟩
    go_wp2_with (fail)
    go_ret
    exact ⟨rfl, rfl⟩

theorem Flip_calls (T : TypeId) (b d : Nat) (l : List Nat) (f : Nat) (c : Int) (w : World) (h : RowAt T b d l f w) :
    Calls Tryd.prog 28 #[.pointer (some ⟨b, 0, none⟩), .int .i64 c] w fun e w' => e = .returned (.bool (flipB l c)) ∧ RowAt T b d (flipL l c) f w' ∧ Upd [d] w w' := by
  cases hi : flipB l c
  · rw [flipL, hi]
    refine (Flip_out T b d l f c w h hi).mono ?_
    rintro e w' ⟨rfl, rfl⟩
    exact ⟨rfl, h, Upd.refl _ _⟩
  · rw [flipL, hi]
    have := of_decide_eq_true hi
    obtain ⟨k, rfl⟩ : ∃ k : Nat, c = (k : Int) := ⟨c.toNat, by omega⟩
    exact Flip_in T b d l f k w h (by omega)

theorem info_u64 : (Tryd.prog.info? 63).map (fun i => (i.zero, i.size, i.bytes)) = some (some (.int .u64 0), 1, 8) := by kernel_rfl
theorem made_nums (n : Nat) : madeCells #[.int .u64 0] n = nums .u64 (List.replicate n 0) := by
  apply Array.ext
  · simp [madeCells, nums]
  · intro i h1 h2
    simp [madeCells, nums, Nat.mod_one]

set_option maxHeartbeats 1000000 in
theorem New_size (n : Int) (N : Nat) (w : World) (hT : Tz w) (hN : (N : Int) = max 0 (min n 2048)) :
    Calls Tryd.prog 18 #[.int .i64 n] w fun e w' => e = .returned (.pointer (some ⟨w.heap.size + 1, 0, none⟩)) ∧ RowAt 66 (w.heap.size + 1) w.heap.size (List.replicate N 0) 0 w' ∧ Upd [] w w' ∧ w'.heap.size = w.heap.size + 2 := by
  obtain ⟨i0, hi, hz0, hz1, hz2⟩ := info_parts info_u64
  have hmk : ∀ u : World, (Instr.makeSlice 60 (.int .i64 (N : Int)) (.int .i64 (N : Int))).run Tryd.prog u =
      .ok (.slice (some ⟨u.heap.size, 0, none⟩) N N) (u.alloc (.cells (nums .u64 (List.replicate N 0)) 63)) := fun u => by
    have h := run_make (P := Tryd.prog) u 60 63 i0 (.int .u64 0) Tryd.underlying60 hi hz0 .i64 .i64 (N : Int) (N : Int) (by omega) (Int.le_refl _) (by rw [hz2]; omega) (by omega)
    rw [Int.toNat_natCast] at h
    rw [← made_nums]
    simpa [hz1, Value.cells] using h
  have hNl : N ≤ 2048 := by omega
  have hmin := min2_nat .i64 n 2048 _ rfl
  have hmax := max2_nat .i64 0 (min n 2048) (N : Int) hN.symm
  clear hN
  go_enter Tryd.func18, Tryd.ntmps18
  go_wp2_with (fail)
  go_ret
  have h0 := hT.size
  have hNs : (List.replicate N 0).length = N := List.length_replicate ..
  refine ⟨rfl, ⟨?_, ?_, by omega, by omega, by omega, ?_, ?_, ?_⟩, ((Upd.refl _ _).alloc _).alloc _, by simp⟩
  · rw [hNs]; simpa using Go.heap_alloc_last (w.alloc (.cells (nums .u64 (List.replicate N 0)) 63)) (.cells #[.slice (some ⟨w.heap.size, 0, none⟩) N N, .int .i64 0] 66)
  · exact heap_old (Go.heap_alloc_last _ _) _
  · exact hT.of_upd (((Upd.refl [] _).alloc _).alloc _) (by simp)
  · intro x hx; obtain rfl := List.eq_of_mem_replicate hx; decide
  · rw [hNs]; omega

theorem New_calls (n : Int) (N : Nat) (w : World) (hT : Tz w) (hN : (N : Int) = max 0 (min n 2048)) :
    Calls Tryd.prog 18 #[.int .i64 n] w fun e w' => e = .returned (.pointer (some ⟨w.heap.size + 1, 0, none⟩)) ∧ RowAt 66 (w.heap.size + 1) w.heap.size (List.replicate N 0) 0 w' ∧ Upd [] w w' :=
  (New_size n N w hT hN).mono fun _ _ ⟨he, hr, hu, _⟩ => ⟨he, hr, hu⟩
end Go.Proofs.YthoaofbhppdfoaaDoor
