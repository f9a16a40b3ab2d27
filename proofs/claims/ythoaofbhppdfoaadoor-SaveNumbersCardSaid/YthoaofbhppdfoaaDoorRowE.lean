/- The document's own rows of protected words: Get, Flip, New. -/
import Derived.Test.YthoaofbhppdfoaaDoorRowD
namespace Go.Proofs.YthoaofbhppdfoaaDoor
open Go.RowKit Go.Dio
set_option linter.unusedSimpArgs false
set_option linter.unusedVariables false

set_option maxHeartbeats 1000000 in
theorem RGet_calls (T : TypeId) (b d : Nat) (l : List Nat) (f : Nat) (i : Int) (w : World) (h : RowAt T b d l f w) (hf : f < 9223372036854775806) :
    Calls Tryd.prog 24 #[.pointer (some ⟨b, 0, none⟩), .int .i64 i] w fun e w' => e = .returned (.tuple #[.int .u32 ((peekL l i).1 : Int), .int .i64 ((peekL l i).2 : Int)]) ∧ RowAt T b d (getL l i) (f + getF l i) w' ∧ Upd [b, d] w w' := by
  have c0 : w.cell? ⟨b, 0, none⟩ = some (.slice (some ⟨d, 0, none⟩) l.length l.length) := by rw [cells_of h.head]; rfl
  have H := Lib.hid h
  cases hi : inn l i
  · have e1 : getL l i = l := by rw [getL, hi]; rfl
    have e2 : getF l i = 0 := by rw [getF, hi]; rfl
    rw [peekL, hi, e1, e2]
    have hi' := of_decide_eq_false hi
    clear h hi e1 e2
    generalize hn : l.length = n at c0 hi'
    rcases Int.lt_or_le i 0 with h0 | h0
    · go_enter Tryd.func24, Tryd.ntmps24
      go_wp2_with (fail)
      go_ret2
      exact ⟨rfl, H.out, Upd.refl _ _⟩
    · have h1 : (n : Int) ≤ i := by omega
      clear hi'
      go_enter Tryd.func24, Tryd.ntmps24
      go_wp2_with (fail)
      go_ret2
      exact ⟨rfl, H.out, Upd.refl _ _⟩
  · have hp0 := hi
    obtain ⟨k, rfl, hk⟩ := inn_iff hi
    have hsm := nth_lt h.small (by decide) k
    have M := Lib.hid (RefMend_calls (nth l k) w hsm)
    have hml := mend_lt (nth l k)
    have cd : w.cell? ⟨d, k, none⟩ = some (.int .u64 ((nth l k : Nat) : Int)) := by rw [cells_of h.data]; exact nums_nth .u64 l k hk
    have hlen := h.len
    have hst := mend_st (nth l k)
    have e0 : peekL l (k : Int) = ((mend (nth l k)).1 % 2 ^ 32, (mend (nth l k)).2) := by rw [peekL, hp0]; rfl
    have e1 : getL l (k : Int) = if (mend (nth l k)).2 = 1 then l.set k (mend (nth l k)).1 else l := by
      rw [getL, hp0]; simp only [dec, Bool.true_and, Int.toNat_natCast]; by_cases hz : (mend (nth l k)).2 = 1 <;> simp [hz]
    have e2 : getF l (k : Int) = if (mend (nth l k)).2 = 1 then 1 else 0 := by
      rw [getF, hp0]; simp only [dec, Bool.true_and, Int.toNat_natCast]; by_cases hz : (mend (nth l k)).2 = 1 <;> simp [hz]
    rw [e0, e1, e2]
    obtain ⟨y, z, hyz⟩ : ∃ y z, mend (nth l k) = (y, z) := ⟨_, _, rfl⟩
    rw [hyz] at M hml hst ⊢
    simp only at hml hst ⊢
    have hd1 : decide ((l.length : Int) ≤ (k : Int)) = false := by rw [decide_eq_false_iff_not]; omega
    have hc : IntKind.u32.wrap (y : Int) = ((y % 2 ^ 32 : Nat) : Int) := by rw [IntKind.wrap_u32]; omega
    have fd : w.frozen? ⟨d, k, none⟩ = false := free_of h.data k
    clear h hi hyz e0 e1 e2 hp0
    by_cases h1 : z = 1
    · subst h1
      have H2 := Lib.hid (H.out.set k y (by omega))
      have U2 : Upd [b, d] w (w.setCell ⟨d, k, none⟩ (.int .u64 (y : Int))) := (Upd.refl _ _).setCell (p := ⟨d, k, none⟩) (by simp) _
      rw [if_pos rfl, if_pos rfl]
      go_enter Tryd.func24, Tryd.ntmps24
      go_upto_region 6 with (fail)
      refine M.out.mono ?_
      rintro e w' ⟨rfl, rfl⟩
      go_upto_region 6 with (fail)
      generalize w'.setCell ⟨d, k, none⟩ (.int .u64 (y : Int)) = w2 at U2 H2 ⊢
      have c1 : w2.cell? ⟨b, 1, none⟩ = some (.int .i64 (f : Int)) := by rw [cells_of H2.out.head]; rfl
      have f1 : w2.frozen? ⟨b, 1, none⟩ = false := free_of H2.out.head 1
      go_wp2_with (fail)
      go_ret2
      have hf1 : ((f : Int) + 1) = ((f + 1 : Nat) : Int) := by simp
      refine ⟨by go_num, ?_, U2.setCell (p := ⟨b, 1, none⟩) (by simp) _⟩
      rw [hf1]; exact H2.out.fix (f + 1)
    · have hne : ((z : Int) == 1) = false := by simp; omega
      rw [if_neg h1, if_neg h1]
      go_enter Tryd.func24, Tryd.ntmps24
      go_wp2_with (fail)
      refine M.out.mono ?_
      rintro e w' ⟨rfl, rfl⟩
      go_wp2_with (fail)
      go_ret2
      exact ⟨by go_num, H.out, Upd.refl _ _⟩

set_option maxHeartbeats 1000000 in
theorem RFlip_in (T : TypeId) (b d : Nat) (l : List Nat) (f c : Nat) (w : World) (h : RowAt T b d l f w) (hc : c < 39 * l.length) :
    Calls Tryd.prog 14 #[.pointer (some ⟨b, 0, none⟩), .int .i64 (c : Int)] w fun e w' => e = .returned (.bool true) ∧ RowAt T b d (l.set (c / 39) (nth l (c / 39) ^^^ 2 ^ (c % 39))) f w' ∧ Upd [d] w w' := by
  have H := Lib.hid h
  have hlen := h.len
  have c0 : w.cell? ⟨b, 0, none⟩ = some (.slice (some ⟨d, 0, none⟩) l.length l.length) := by rw [cells_of h.head]; rfl
  obtain ⟨k, hk⟩ : ∃ k, k = c / 39 := ⟨_, rfl⟩
  obtain ⟨m, hm⟩ : ∃ m, m = c % 39 := ⟨_, rfl⟩
  rw [← hk, ← hm]
  have hkl : k < l.length := by omega
  have hml : m < 39 := by omega
  have q1 : (c : Int) / 39 = (k : Int) := by omega
  have q2 : (c : Int) % 39 = (m : Int) := by omega
  have q3 : (c : Int).tdiv 39 = (k : Int) := by rw [Int.tdiv_eq_ediv_of_nonneg (by omega)]; exact q1
  have q4 : (c : Int).tmod 39 = (m : Int) := by rw [Int.tmod_eq_emod_of_nonneg (by omega)]; exact q2
  have hlt : decide ((39 * (l.length : Int)) ≤ (c : Int)) = false := by rw [decide_eq_false_iff_not]; omega
  have hsm := nth_lt h.small (by decide) k
  have hp := pow64 m (by omega)
  have hx := xor_pow (nth l k) m hsm (by omega)
  have hxl : nth l k ^^^ 2 ^ m < 2 ^ 64 := Nat.xor_lt_two_pow hsm (pow_lt64 (by omega))
  have hy : ∀ x : Near [d] w, x.1.cell? ⟨b, 0, none⟩ = some (.slice (some ⟨d, 0, none⟩) l.length l.length) := fun x => by rw [cells_of (x.2.keep h.head (by simpa using h.ne))]; rfl
  clear h hk hm
  go_enter Tryd.func14, Tryd.ntmps14
  go_wp2_with (fail)
  refine wp_region_plan (fun z => ∃ x : Near [d] w, z = x.1) [([0, 1, 2, 3, 4, 5, 6, 7, 8, 9, 10, 11, 12, 14, 15, 16, 17], 13), ([18, 19], 20)] [] (by kernel_rfl) (by kernel_rfl) (by kernel_rfl) (by kernel_rfl) (fun _ d _ _ _ h => by cases d <;> exact h) ⟨⟨w.drew, (Upd.refl _ _).drew⟩, rfl⟩ ?_
  refine plan_next ?_
  simp only [opsAt, List.map_cons, List.map_nil, List.getElem?_toArray, List.getElem?_cons_zero, List.getElem?_cons_succ, Option.getD_some]
  repeat (go_big_quiet_step (fail))
  refine wpQuiet_nil ?_
  refine plan_one rfl ?_
  have U0 : Upd [] w w.drew := (Upd.refl _ _).drew
  have H1 := Lib.hid (H.out.upd0 U0)
  have cd : w.drew.cell? ⟨d, k, none⟩ = some (.int .u64 ((nth l k : Nat) : Int)) := by rw [cells_of H1.out.data]; exact nums_nth .u64 l k hkl
  have fd : w.drew.frozen? ⟨d, k, none⟩ = false := free_of H1.out.data k
  go_wp2_with fail
  refine plan_same ⟨⟨_, U0.mono (by simp)⟩, rfl⟩ ?_
  refine plan_next ?_
  simp only [opsAt, List.map_cons, List.map_nil, List.getElem?_toArray, List.getElem?_cons_zero, List.getElem?_cons_succ, Option.getD_some]
  repeat (go_big_quiet_step (fail))
  refine wpQuiet_nil ?_
  refine plan_one rfl ?_
  go_wp2_with fail
  have U3 : Upd [d] w (w.setCell ⟨d, k, none⟩ (.int .u64 ((nth l k ^^^ 2 ^ m : Nat) : Int))).drew := ((Upd.refl [d] w).setCell (p := ⟨d, k, none⟩) (by simp) _).drew
  have H3 := Lib.hid ((H.out.set k _ hxl).upd0 (Upd.refl _ _).drew)
  generalize (w.setCell ⟨d, k, none⟩ (.int .u64 ((nth l k ^^^ 2 ^ m : Nat) : Int))).drew = w3 at U3 H3 ⊢
  refine plan_same ⟨⟨w3, U3⟩, rfl⟩ ?_
  refine plan_last ?_
  simp only [opsAt, List.map_nil]
  refine wpQuiet_nil ?_
  unfold planEnd
  go_wp2_with fail
  go_ret
  exact ⟨rfl, H3.out, U3⟩

theorem RFlip_out (T : TypeId) (b d : Nat) (l : List Nat) (f : Nat) (c : Int) (w : World) (h : RowAt T b d l f w) (hc : flipB l c = false) :
    Calls Tryd.prog 14 #[.pointer (some ⟨b, 0, none⟩), .int .i64 c] w fun e w' => e = .returned (.bool false) ∧ w' = w := by
  have c0 : w.cell? ⟨b, 0, none⟩ = some (.slice (some ⟨d, 0, none⟩) l.length l.length) := by rw [cells_of h.head]; rfl
  have hlen := h.len
  have hc' := of_decide_eq_false hc
  clear h hc
  generalize l.length = n at *
  rcases Int.lt_or_le c 0 with h0 | h0
  · clear hc'
    go_enter Tryd.func14, Tryd.ntmps14
    go_wp2_with (fail)
    go_ret
    exact ⟨rfl, rfl⟩
  · have hlt2 : (39 * (n : Int)) ≤ c := by omega
    clear hc'
    go_enter Tryd.func14, Tryd.ntmps14
    go_wp2_with (fail)
    go_ret
    exact ⟨rfl, rfl⟩

theorem RFlip_calls (T : TypeId) (b d : Nat) (l : List Nat) (f : Nat) (c : Int) (w : World) (h : RowAt T b d l f w) :
    Calls Tryd.prog 14 #[.pointer (some ⟨b, 0, none⟩), .int .i64 c] w fun e w' => e = .returned (.bool (flipB l c)) ∧ RowAt T b d (flipL l c) f w' ∧ Upd [d] w w' := by
  cases hi : flipB l c
  · rw [flipL, hi]
    refine (RFlip_out T b d l f c w h hi).mono ?_
    rintro e w' ⟨rfl, rfl⟩
    exact ⟨rfl, h, Upd.refl _ _⟩
  · rw [flipL, hi]
    have := of_decide_eq_true hi
    obtain ⟨k, rfl⟩ : ∃ k : Nat, c = (k : Int) := ⟨c.toNat, by omega⟩
    exact RFlip_in T b d l f k w h (by omega)

set_option maxHeartbeats 1000000 in
theorem RNew_calls (n : Int) (N : Nat) (w : World) (hT : Tz w) (hN : (N : Int) = max 0 (min n 2048)) :
    Calls Tryd.prog 20 #[.int .i64 n] w fun e w' => e = .returned (.pointer (some ⟨w.heap.size + 1, 0, none⟩)) ∧ RowAt 62 (w.heap.size + 1) w.heap.size (List.replicate N 0) 0 w' ∧ Upd [] w w' := by
  obtain ⟨i0, hi, hz0, hz1, hz2⟩ := info_parts info_u64
  have hmk : ∀ u : World, (Instr.makeSlice 60 (.int .i64 (N : Int)) (.int .i64 (N : Int))).run Tryd.prog u =
      .ok (.slice (some ⟨u.heap.size, 0, none⟩) N N) (u.alloc (.cells (nums .u64 (List.replicate N 0)) 63)) := fun u => by
    have h := run_make (P := Tryd.prog) u 60 63 i0 (.int .u64 0) Tryd.underlying60 hi hz0 .i64 .i64 (N : Int) (N : Int) (by omega) (Int.le_refl _) (by rw [hz2]; omega) (by omega)
    rw [Int.toNat_natCast] at h
    rw [← made_nums]
    simpa [hz1, Value.cells] using h
  have hNl : N ≤ 2048 := by omega
  have hmin := min2_nat .i64 n 2048 _ rfl
  have hmax := max2_nat .i64 (min n 2048) 0 (N : Int) (by omega)
  clear hN
  go_enter Tryd.func20, Tryd.ntmps20
  go_wp2_with (fail)
  go_ret
  have h0 := hT.size
  have hNs : (List.replicate N 0).length = N := List.length_replicate ..
  refine ⟨rfl, ⟨?_, ?_, by omega, by omega, by omega, ?_, ?_, ?_⟩, ((Upd.refl _ _).alloc _).alloc _⟩
  · rw [hNs]; simpa using Go.heap_alloc_last (w.alloc (.cells (nums .u64 (List.replicate N 0)) 63)) (.cells #[.slice (some ⟨w.heap.size, 0, none⟩) N N, .int .i64 0] 62)
  · exact heap_old (Go.heap_alloc_last _ _) _
  · exact hT.of_upd (((Upd.refl [] _).alloc _).alloc _) (by simp)
  · intro x hx; obtain rfl := List.eq_of_mem_replicate hx; decide
  · rw [hNs]; omega
end Go.Proofs.YthoaofbhppdfoaaDoor
