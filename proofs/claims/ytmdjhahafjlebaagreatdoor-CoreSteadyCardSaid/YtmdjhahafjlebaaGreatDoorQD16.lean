/- Rows of protected words in memory: Scrub, Flip, New. -/
import Derived.Test.YtmdjhahafjlebaaGreatDoorQD15
namespace Go.Proofs.YtmdjhahafjlebaaGreatDoor
open Go.RowKit Go.Dio

theorem Scrub_calls (T : TypeId) (b d : Nat) (l : List Nat) (f : Nat) (i : Int) (w : World) (h : RowAt T b d l f w) (hf : f < 9223372036854775806) :
    Calls Tryz.prog 68 #[.pointer (some ⟨b, 0, none⟩), .int .i64 i] w fun e w' => e = .returned (.int .i64 ((peekL l i).2 : Int)) ∧ RowAt T b d (getL l i) (f + getF l i) w' ∧ Upd [b, d] w w' := by
  have G := Lib.hid (Get_calls T b d l f i w h hf)
  clear h
  obtain ⟨y, z, hyz⟩ : ∃ y z, peekL l i = (y, z) := ⟨_, _, rfl⟩
  rw [hyz] at G ⊢
  go_enter Tryz.func68, Tryz.ntmps68
  go_wp2_with (fail)
  refine G.out.mono ?_
  rintro e w1 ⟨rfl, hr⟩
  go_wp2_with (fail)
  go_ret
  exact ⟨rfl, hr⟩

set_option maxHeartbeats 1000000 in
theorem Flip_in (T : TypeId) (b d : Nat) (l : List Nat) (f c : Nat) (w : World) (h : RowAt T b d l f w) (hc : c < 39 * l.length) :
    Calls Tryz.prog 48 #[.pointer (some ⟨b, 0, none⟩), .int .i64 (c : Int)] w fun e w' => e = .returned (.bool true) ∧ RowAt T b d (l.set (c / 39) (nth l (c / 39) ^^^ 2 ^ (c % 39))) f w' ∧ Upd [d] w w' := by
  have H := Lib.hid h
  have hlen := h.len
  have B := Lib.hid (Bits_calls T b d l f w h)
  obtain ⟨k, hk⟩ : ∃ k, k = c / 39 := ⟨_, rfl⟩
  obtain ⟨m, hm⟩ : ∃ m, m = c % 39 := ⟨_, rfl⟩
  rw [← hk, ← hm]
  have hkl : k < l.length := by omega
  have hml : m < 39 := by omega
  have q1 : (c : Int) / 39 = (k : Int) := by omega
  have q2 : (c : Int) % 39 = (m : Int) := by omega
  have q3 : (c : Int).tdiv 39 = (k : Int) := by rw [Int.tdiv_eq_ediv_of_nonneg (by omega)]; exact q1
  have q4 : (c : Int).tmod 39 = (m : Int) := by rw [Int.tmod_eq_emod_of_nonneg (by omega)]; exact q2
  have hlt : decide (((l.length : Int) * 39) ≤ (c : Int)) = false := by rw [decide_eq_false_iff_not]; omega
  have hsm := nth_lt h.small (by decide) k
  have hp := pow64 m (by omega)
  have hx := xor_pow (nth l k) m hsm (by omega)
  have hxl : nth l k ^^^ 2 ^ m < 2 ^ 64 := Nat.xor_lt_two_pow hsm (pow_lt64 (by omega))
  have hy : ∀ x : Near [d] w, x.1.cell? ⟨b, 0, none⟩ = some (.slice (some ⟨d, 0, none⟩) l.length l.length) := fun x => by rw [cells_of (x.2.keep h.head (by simpa using h.ne))]; rfl
  clear h hk hm
  go_enter Tryz.func48, Tryz.ntmps48
  go_wp2_with (fail)
  refine B.out.mono ?_
  rintro e w1 ⟨rfl, rfl⟩
  go_wp2_with (fail)
  refine wp_region_plan (fun z => ∃ x : Near [d] w1, z = x.1) [([0, 1, 2, 3, 4, 5, 6, 8, 9, 10], 7), ([11, 12], 13)] [] (by kernel_rfl) (by kernel_rfl) (by kernel_rfl) (by kernel_rfl) (fun _ d _ _ _ h => by cases d <;> exact h) ⟨⟨w1.drew, (Upd.refl _ _).drew⟩, rfl⟩ ?_
  refine plan_next ?_
  simp only [opsAt, List.map_cons, List.map_nil, List.getElem?_toArray, List.getElem?_cons_zero, List.getElem?_cons_succ, Option.getD_some]
  repeat (go_big_quiet_step (fail))
  refine wpQuiet_nil ?_
  refine plan_one rfl ?_
  have U0 : Upd [] w1 w1.drew := (Upd.refl _ _).drew
  have H1 := Lib.hid (H.out.upd0 U0)
  have cd : w1.drew.cell? ⟨d, k, none⟩ = some (.int .u64 ((nth l k : Nat) : Int)) := by rw [cells_of H1.out.data]; exact nums_nth .u64 l k hkl
  have fd : w1.drew.frozen? ⟨d, k, none⟩ = false := free_of H1.out.data k
  go_wp2_with fail
  refine plan_same ⟨⟨_, U0.mono (by simp)⟩, rfl⟩ ?_
  refine plan_next ?_
  simp only [opsAt, List.map_cons, List.map_nil, List.getElem?_toArray, List.getElem?_cons_zero, List.getElem?_cons_succ, Option.getD_some]
  repeat (go_big_quiet_step (fail))
  refine wpQuiet_nil ?_
  refine plan_one rfl ?_
  go_wp2_with fail
  have U3 : Upd [d] w1 (w1.setCell ⟨d, k, none⟩ (.int .u64 ((nth l k ^^^ 2 ^ m : Nat) : Int))).drew := ((Upd.refl [d] w1).setCell (p := ⟨d, k, none⟩) (by simp) _).drew
  have H3 := Lib.hid ((H.out.set k _ hxl).upd0 (Upd.refl _ _).drew)
  generalize (w1.setCell ⟨d, k, none⟩ (.int .u64 ((nth l k ^^^ 2 ^ m : Nat) : Int))).drew = w3 at U3 H3 ⊢
  refine plan_same ⟨⟨w3, U3⟩, rfl⟩ ?_
  refine plan_last ?_
  simp only [opsAt, List.map_nil]
  refine wpQuiet_nil ?_
  unfold planEnd
  go_wp2_with fail
  go_ret
  exact ⟨rfl, H3.out, U3⟩

theorem Flip_out (T : TypeId) (b d : Nat) (l : List Nat) (f : Nat) (c : Int) (w : World) (h : RowAt T b d l f w) (hc : flipB l c = false) :
    Calls Tryz.prog 48 #[.pointer (some ⟨b, 0, none⟩), .int .i64 c] w fun e w' => e = .returned (.bool false) ∧ w' = w := by
  have B := Lib.hid (Bits_calls T b d l f w h)
  have hc' := of_decide_eq_false hc
  rcases Int.lt_or_le c 0 with h0 | h0
  · go_enter Tryz.func48, Tryz.ntmps48
    go_wp2_with (fail)
    go_ret
    exact ⟨rfl, rfl⟩
  · have hlt : decide (((l.length : Int) * 39) ≤ c) = true := by rw [decide_eq_true_iff]; omega
    have hlt2 : ((l.length : Int) * 39) ≤ c := by omega
    clear hc hc'
    go_enter Tryz.func48, Tryz.ntmps48
    go_wp2_with (fail)
    refine B.out.mono ?_
    rintro e w1 ⟨rfl, rfl⟩
    go_wp2_with (fail)
    go_ret
    exact ⟨rfl, rfl⟩

theorem Flip_calls (T : TypeId) (b d : Nat) (l : List Nat) (f : Nat) (c : Int) (w : World) (h : RowAt T b d l f w) :
    Calls Tryz.prog 48 #[.pointer (some ⟨b, 0, none⟩), .int .i64 c] w fun e w' => e = .returned (.bool (flipB l c)) ∧ RowAt T b d (flipL l c) f w' ∧ Upd [d] w w' := by
  cases hi : flipB l c
  · rw [flipL, hi]
    refine (Flip_out T b d l f c w h hi).mono ?_
    rintro e w' ⟨rfl, rfl⟩
    exact ⟨rfl, h, Upd.refl _ _⟩
  · rw [flipL, hi]
    have := of_decide_eq_true hi
    obtain ⟨k, rfl⟩ : ∃ k : Nat, c = (k : Int) := ⟨c.toNat, by omega⟩
    exact Flip_in T b d l f k w h (by omega)

theorem info_u64 : (Tryz.prog.info? 113).map (fun i => (i.zero, i.size, i.bytes)) = some (some (.int .u64 0), 1, 8) := by kernel_rfl
theorem made_nums (n : Nat) : madeCells #[.int .u64 0] n = nums .u64 (List.replicate n 0) := by
  apply Array.ext
  · simp [madeCells, nums]
  · intro i h1 h2
    simp [madeCells, nums, Nat.mod_one]

set_option maxHeartbeats 1000000 in
theorem New_size (n : Int) (N : Nat) (w : World) (hT : Tz w) (hN : (N : Int) = max 0 (min n 2048)) :
    Calls Tryz.prog 33 #[.int .i64 n] w fun e w' => e = .returned (.pointer (some ⟨w.heap.size + 1, 0, none⟩)) ∧ RowAt 108 (w.heap.size + 1) w.heap.size (List.replicate N 0) 0 w' ∧ Upd [] w w' ∧ w'.heap.size = w.heap.size + 2 := by
  obtain ⟨i0, hi, hz0, hz1, hz2⟩ := info_parts info_u64
  have hmk : ∀ u : World, (Instr.makeSlice 106 (.int .i64 (N : Int)) (.int .i64 (N : Int))).run Tryz.prog u =
      .ok (.slice (some ⟨u.heap.size, 0, none⟩) N N) (u.alloc (.cells (nums .u64 (List.replicate N 0)) 113)) := fun u => by
    have h := run_make (P := Tryz.prog) u 106 113 i0 (.int .u64 0) Tryz.underlying106 hi hz0 .i64 .i64 (N : Int) (N : Int) (by omega) (Int.le_refl _) (by rw [hz2]; omega) (by omega)
    rw [Int.toNat_natCast] at h
    rw [← made_nums]
    simpa [hz1, Value.cells] using h
  have hNl : N ≤ 2048 := by omega
  have hmin := min2_nat .i64 n 2048 _ rfl
  have hmax := max2_nat .i64 0 (min n 2048) (N : Int) hN.symm
  clear hN
  go_enter Tryz.func33, Tryz.ntmps33
  go_wp2_with (fail)
  go_ret
  have h0 := hT.size
  have hNs : (List.replicate N 0).length = N := List.length_replicate ..
  refine ⟨rfl, ⟨?_, ?_, by omega, by omega, by omega, ?_, ?_, ?_⟩, ((Upd.refl _ _).alloc _).alloc _, by simp⟩
  · rw [hNs]; simpa using Go.heap_alloc_last (w.alloc (.cells (nums .u64 (List.replicate N 0)) 113)) (.cells #[.slice (some ⟨w.heap.size, 0, none⟩) N N, .int .i64 0] 108)
  · exact heap_old (Go.heap_alloc_last _ _) _
  · exact hT.of_upd (((Upd.refl [] _).alloc _).alloc _) (by simp)
  · intro x hx; obtain rfl := List.eq_of_mem_replicate hx; decide
  · rw [hNs]; omega

theorem New_calls (n : Int) (N : Nat) (w : World) (hT : Tz w) (hN : (N : Int) = max 0 (min n 2048)) :
    Calls Tryz.prog 33 #[.int .i64 n] w fun e w' => e = .returned (.pointer (some ⟨w.heap.size + 1, 0, none⟩)) ∧ RowAt 108 (w.heap.size + 1) w.heap.size (List.replicate N 0) 0 w' ∧ Upd [] w w' :=
  (New_size n N w hT hN).mono fun _ _ ⟨he, hr, hu, _⟩ => ⟨he, hr, hu⟩
end Go.Proofs.YtmdjhahafjlebaaGreatDoor

namespace Go.Proofs.YtmdjhahafjlebaaGreatDoor
open Go.RowKit Go.Dio

theorem Tz.lt {w : World} (h : Tz w) : 0 < w.heap.size := by
  rcases Nat.lt_or_ge 0 w.heap.size with h0 | h0
  · exact h0
  · have hc := h 0 (by decide)
    have e : w.heap[0]? = none := by rw [Array.getElem?_eq_none_iff]; exact h0
    simp [World.cell?, e] at hc

/-- An assertion on some blocks: it stays as long as these (and the table) stay. -/
structure Ast where
  fp : List Nat
  ok : World → Prop
  st : ∀ S w w', ok w → Upd S w w' → (∀ x ∈ fp, x ∉ S) → 0 ∉ S → ok w'

/-- The assertions hold, on blocks of the call's own, apart from each other; what was there is as it was. -/
structure Env (w0 : World) (As : List Ast) (w : World) : Prop where
  upd : Upd [] w0 w
  tz : Tz w
  ok : ∀ (i : Nat) (A : Ast), As[i]? = some A → A.ok w
  nodup : (As.flatMap Ast.fp).Nodup
  old : ∀ x ∈ As.flatMap Ast.fp, w0.heap.size ≤ x ∧ x < w.heap.size

theorem mem_fp {As : List Ast} {i : Nat} {A : Ast} (hi : As[i]? = some A) {x : Nat} (hx : x ∈ A.fp) : x ∈ As.flatMap Ast.fp :=
  List.mem_flatMap.2 ⟨A, List.mem_of_getElem? hi, hx⟩
theorem fp_apart : ∀ {As : List Ast} {i j : Nat} {A B : Ast}, (As.flatMap Ast.fp).Nodup → As[i]? = some A → As[j]? = some B → i ≠ j → ∀ x ∈ A.fp, x ∉ B.fp
  | [], _, _, _, _, _, h, _, _ => by simp at h
  | C :: As, 0, 0, _, _, _, _, _, h => absurd rfl h
  | C :: As, 0, j + 1, A, B, hn, hi, hj, _ => by
    obtain rfl : C = A := by simpa using hi
    rw [List.flatMap_cons, List.nodup_append] at hn
    intro x hx hb
    exact hn.2.2 x hx x (mem_fp (by simpa using hj) hb) rfl
  | C :: As, i + 1, 0, A, B, hn, hi, hj, _ => by
    obtain rfl : C = B := by simpa using hj
    rw [List.flatMap_cons, List.nodup_append] at hn
    intro x hx hb
    exact hn.2.2 x hb x (mem_fp (by simpa using hi) hx) rfl
  | C :: As, i + 1, j + 1, A, B, hn, hi, hj, hne => by
    rw [List.flatMap_cons, List.nodup_append] at hn
    exact fp_apart (As := As) hn.2.1 (by simpa using hi) (by simpa using hj) (by omega)
theorem fp_set : ∀ {As : List Ast} {i : Nat} {A A' : Ast}, As[i]? = some A → A'.fp = A.fp → (As.set i A').flatMap Ast.fp = As.flatMap Ast.fp
  | [], _, _, _, h, _ => by simp at h
  | C :: As, 0, A, A', h, hf => by
    obtain rfl : C = A := by simpa using h
    simp [hf]
  | C :: As, i + 1, A, A', h, hf => by
    simp only [List.set_cons_succ, List.flatMap_cons]
    rw [fp_set (As := As) (by simpa using h) hf]

theorem Env.tzne {w0 : World} {As : List Ast} {w : World} (h : Env w0 As w) (h0 : Tz w0) {x : Nat} (hx : x ∈ As.flatMap Ast.fp) : x ≠ 0 := by
  have := (h.old x hx).1; have := h0.lt; omega

theorem Env.near {w0 : World} {As : List Ast} {w w' : World} (h : Env w0 As w) (u : Upd [] w w') : Env w0 As w' :=
  ⟨h.upd.trans u, h.tz.of_upd u (by simp), fun i A hi => A.st [] w w' (h.ok i A hi) u (by simp) (by simp), h.nodup, fun x hx => ⟨(h.old x hx).1, Nat.lt_of_lt_of_le (h.old x hx).2 u.size⟩⟩

/-- One assertion was turned by a call that writes its blocks alone. -/
theorem Env.set {w0 : World} {As : List Ast} {w w' : World} (h : Env w0 As w) (h0 : Tz w0) (i : Nat) {A A' : Ast} (hi : As[i]? = some A) {S : List Nat} (u : Upd S w w') (hS : ∀ x ∈ S, x ∈ A.fp) (h' : A'.ok w') (hf : A'.fp = A.fp) : Env w0 (As.set i A') w' := by
  have hz : 0 ∉ S := fun hm => h.tzne h0 (mem_fp hi (hS _ hm)) rfl
  refine ⟨h.upd.then u (fun x hx hlt => ?_), h.tz.of_upd u hz, fun j B hj => ?_, ?_, ?_⟩
  · have := (h.old x (mem_fp hi (hS x hx))).1; omega
  · by_cases e : i = j
    · subst e
      have hl : i < As.length := (List.getElem?_eq_some_iff.1 hi).1
      rw [List.getElem?_set_self hl] at hj
      obtain rfl : A' = B := by simpa using hj
      exact h'
    · rw [List.getElem?_set_ne e] at hj
      exact B.st S w w' (h.ok j B hj) u (fun x hx hm => fp_apart h.nodup hj hi (Ne.symm e) x hx (hS x hm)) hz
  · rw [fp_set hi hf]; exact h.nodup
  · rw [fp_set hi hf]; exact fun x hx => ⟨(h.old x hx).1, Nat.lt_of_lt_of_le (h.old x hx).2 u.size⟩

/-- A new assertion on blocks that a call has made. -/
theorem Env.add {w0 : World} {As : List Ast} {w w' : World} (h : Env w0 As w) (u : Upd [] w w') (A : Ast) (hA : A.ok w') (hn : A.fp.Nodup) (hf : ∀ x ∈ A.fp, w.heap.size ≤ x ∧ x < w'.heap.size) : Env w0 (A :: As) w' := by
  have hk := h.near u
  refine ⟨hk.upd, hk.tz, fun i B hi => ?_, ?_, ?_⟩
  · cases i with
    | zero => obtain rfl : A = B := by simpa using hi
              exact hA
    | succ i => exact hk.ok i B (by simpa using hi)
  · rw [List.flatMap_cons, List.nodup_append]
    refine ⟨hn, h.nodup, fun x hx y hy e => ?_⟩
    have := (hf x hx).1
    have := (h.old y hy).2
    omega
  · intro x hx
    rw [List.flatMap_cons, List.mem_append] at hx
    rcases hx with hx | hx
    · have := hf x hx; have := h.upd.size; omega
    · exact hk.old x hx
theorem Env.drop1 {w0 : World} {A : Ast} {As : List Ast} {w : World} (h : Env w0 (A :: As) w) : Env w0 As w := by
  refine ⟨h.upd, h.tz, fun i B hi => h.ok (i + 1) B (by simpa using hi), ?_, fun x hx => h.old x (by rw [List.flatMap_cons, List.mem_append]; exact .inr hx)⟩
  have := h.nodup
  rw [List.flatMap_cons, List.nodup_append] at this
  exact this.2.1
theorem Env.none {w : World} (hT : Tz w) : Env w [] w := ⟨Upd.refl _ _, hT, by simp, by simp, by simp⟩
theorem Env.below {w0 : World} {As : List Ast} {w : World} (h : Env w0 As w) : Below w0.heap.size w0 w := h.upd.below

/-- A block that is known whole. -/
def blk (b : Nat) (c : List Value) (T : TypeId) : Ast :=
  ⟨[b], fun w => w.heap[b]? = some (.cells c.toArray T (0, 0)), fun _ _ _ h u hb _ => u.keep h (hb b (by simp))⟩
/-- A row of protected words. -/
def rowA (T : TypeId) (b d : Nat) (l : List Nat) (f : Nat) : Ast :=
  ⟨[b, d], RowAt T b d l f, fun _ _ _ h u hb hg => h.upd u (hb b (by simp)) (hb d (by simp)) hg⟩
end Go.Proofs.YtmdjhahafjlebaaGreatDoor
