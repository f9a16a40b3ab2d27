/- Rows of protected words in memory: there, Len, Bits, Fixes, Put. -/
import Derived.Test.YtmdjhahafjlebaaGreatDoorQD03
import Derived.Test.YtmdjhahafjlebaaGreatDoorQD14
import Derived.Test.YtmdjhahafjlebaaGreatDoorQD04
namespace Go.Proofs.YtmdjhahafjlebaaGreatDoor
open Go.RowKit Go.Dio

/-- A row of type T at block b, its words at block d. -/
structure RowAt (T : TypeId) (b d : Nat) (l : List Nat) (f : Nat) (w : World) : Prop where
  head : w.heap[b]? = some (.cells #[.slice (some ⟨d, 0, none⟩) l.length l.length, .int .i64 (f : Int)] T (0, 0))
  data : w.heap[d]? = some (.cells (nums .u64 l) 113 (0, 0))
  ne : b ≠ d
  b0 : b ≠ 0
  d0 : d ≠ 0
  tz : Tz w
  small : ∀ x ∈ l, x < 2 ^ 64
  len : l.length ≤ 2048

theorem RowAt.upd {T : TypeId} {b d : Nat} {l : List Nat} {f : Nat} {S : List Nat} {w w' : World} (h : RowAt T b d l f w) (u : Upd S w w') (hb : b ∉ S) (hd : d ∉ S) (hg : 0 ∉ S) : RowAt T b d l f w' :=
  ⟨u.keep h.head hb, u.keep h.data hd, h.ne, h.b0, h.d0, h.tz.of_upd u hg, h.small, h.len⟩
theorem RowAt.upd0 {T : TypeId} {b d : Nat} {l : List Nat} {f : Nat} {w w' : World} (h : RowAt T b d l f w) (u : Upd [] w w') : RowAt T b d l f w' := h.upd u (by simp) (by simp) (by simp)
theorem RowAt.blt {T : TypeId} {b d : Nat} {l : List Nat} {f : Nat} {w : World} (h : RowAt T b d l f w) : b < w.heap.size := lt_of_block h.head
theorem RowAt.dlt {T : TypeId} {b d : Nat} {l : List Nat} {f : Nat} {w : World} (h : RowAt T b d l f w) : d < w.heap.size := lt_of_block h.data
/-- The row behind a store of a word. -/
theorem RowAt.set {T : TypeId} {b d : Nat} {l : List Nat} {f : Nat} {w : World} (h : RowAt T b d l f w) (i v : Nat) (hv : v < 2 ^ 64) : RowAt T b d (l.set i v) f (w.setCell ⟨d, i, none⟩ (.int .u64 (v : Int))) := by
  refine ⟨?_, ?_, h.ne, h.b0, h.d0, ?_, set_lt h.small hv, by simpa using h.len⟩
  · rw [heap_setCell_ne _ _ h.ne, h.head]; simp
  · rw [heap_setCell_eq h.data, nums_set]
  · exact h.tz.of_upd ((Upd.refl [d] w).setCell (p := ⟨d, i, none⟩) (by simp) _) (by have := h.d0; simp; omega)
theorem RowAt.fix {T : TypeId} {b d : Nat} {l : List Nat} {f : Nat} {w : World} (h : RowAt T b d l f w) (g : Nat) : RowAt T b d l g (w.setCell ⟨b, 1, none⟩ (.int .i64 (g : Int))) := by
  refine ⟨?_, ?_, h.ne, h.b0, h.d0, ?_, h.small, h.len⟩
  · rw [heap_setCell_eq h.head]; simp
  · rw [heap_setCell_ne _ _ h.ne.symm, h.data]
  · exact h.tz.of_upd ((Upd.refl [b] w).setCell (p := ⟨b, 1, none⟩) (by simp) _) (by have := h.b0; simp; omega)

theorem there_calls (T : TypeId) (b d : Nat) (l : List Nat) (f : Nat) (i : Int) (w : World) (h : RowAt T b d l f w) :
    Calls Tryz.prog 81 #[.pointer (some ⟨b, 0, none⟩), .int .i64 i] w fun e w' => e = .returned (.bool (inn l i)) ∧ w' = w := by
  have cb := cells_of h.head
  have c0 : w.cell? ⟨b, 0, none⟩ = some (.slice (some ⟨d, 0, none⟩) l.length l.length) := by rw [cb]; rfl
  clear cb h
  rcases Int.lt_or_le i 0 with h0 | h0
  · rw [inn_not (.inl h0)]
    go_enter Tryz.func81, Tryz.ntmps81
    go_wp2_with (fail)
    go_ret
    exact ⟨rfl, rfl⟩
  · rcases Int.lt_or_le i (l.length : Int) with h1 | h1
    · rw [inn_of h0 h1]
      generalize l.length = n at *
      go_enter Tryz.func81, Tryz.ntmps81
      go_wp2_with (fail)
      go_ret
      exact ⟨rfl, rfl⟩
    · rw [inn_not (.inr h1)]
      generalize l.length = n at *
      have hd : decide (i < (n : Int)) = false := by rw [decide_eq_false_iff_not]; omega
      go_enter Tryz.func81, Tryz.ntmps81
      go_wp2_with (fail)
      go_ret
      exact ⟨rfl, rfl⟩

theorem Len_calls (T : TypeId) (b d : Nat) (l : List Nat) (f : Nat) (w : World) (h : RowAt T b d l f w) :
    Calls Tryz.prog 104 #[.pointer (some ⟨b, 0, none⟩)] w fun e w' => e = .returned (.int .i64 (l.length : Int)) ∧ w' = w := by
  have cb := cells_of h.head
  have c0 : w.cell? ⟨b, 0, none⟩ = some (.slice (some ⟨d, 0, none⟩) l.length l.length) := by rw [cb]; rfl
  clear cb h
  generalize l.length = n at *
  go_enter Tryz.func104, Tryz.ntmps104
  go_wp2_with (fail)
  go_ret
  exact ⟨rfl, rfl⟩

theorem Bits_calls (T : TypeId) (b d : Nat) (l : List Nat) (f : Nat) (w : World) (h : RowAt T b d l f w) :
    Calls Tryz.prog 36 #[.pointer (some ⟨b, 0, none⟩)] w fun e w' => e = .returned (.int .i64 ((l.length : Int) * 39)) ∧ w' = w := by
  have cb := cells_of h.head
  have c0 : w.cell? ⟨b, 0, none⟩ = some (.slice (some ⟨d, 0, none⟩) l.length l.length) := by rw [cb]; rfl
  have hl := h.len
  clear cb h
  generalize l.length = n at *
  go_enter Tryz.func36, Tryz.ntmps36
  go_wp2_with (fail)
  go_ret
  exact ⟨by go_num, rfl⟩

theorem Fixes_calls (T : TypeId) (b d : Nat) (l : List Nat) (f : Nat) (w : World) (h : RowAt T b d l f w) :
    Calls Tryz.prog 58 #[.pointer (some ⟨b, 0, none⟩)] w fun e w' => e = .returned (.int .i64 (f : Int)) ∧ w' = w := by
  have cb := cells_of h.head
  have c0 : w.cell? ⟨b, 1, none⟩ = some (.int .i64 (f : Int)) := by rw [cb]; rfl
  clear cb h
  go_enter Tryz.func58, Tryz.ntmps58
  go_wp2_with (fail)
  go_ret
  exact ⟨rfl, rfl⟩

set_option maxHeartbeats 1000000 in
theorem Put_in (T : TypeId) (b d : Nat) (l : List Nat) (f i v : Nat) (w : World) (h : RowAt T b d l f w) (hi : i < l.length) (hv : v < 2 ^ 32) :
    Calls Tryz.prog 51 #[.pointer (some ⟨b, 0, none⟩), .int .i64 (i : Int), .int .u32 (v : Int)] w fun e w' => e = .returned (.bool true) ∧ RowAt T b d (l.set i (enc v)) f w' ∧ Upd [d] w w' := by
  have H := Lib.hid h
  have hlen := h.len
  have hx : ∀ x : Near [d] w, x.1.cell? ⟨b, 0, none⟩ = some (.slice (some ⟨d, 0, none⟩) l.length l.length) := fun x => by rw [cells_of (x.2.keep h.head (by simpa using h.ne))]; rfl
  have E := Lib.hid fun w' (h : RowAt T b d l f w') => Encode_calls v w' hv h.tz
  have hel := enc_lt hv
  have TH := Lib.hid fun w' (h : RowAt T b d l f w') => there_calls T b d l f (i : Int) w' h
  have TH2 := Lib.hid fun w' (h : RowAt T b d (l.set i (enc v)) f w') => there_calls T b d (l.set i (enc v)) f (i : Int) w' h
  rw [inn_of (by omega) (by omega)] at TH
  rw [inn_of (by omega) (by rw [List.length_set]; omega)] at TH2
  clear h
  go_enter Tryz.func51, Tryz.ntmps51
  go_wp2_with (fail)
  refine (TH.out _ H.out).mono ?_
  rintro e w' ⟨rfl, rfl⟩
  go_wp2_with (fail)
  refine wp_region_plan (fun z => ∃ x : Near [d] w', z = x.1) [([0, 1, 2, 3, 4, 5], 6), ([7], 8)] [] (by kernel_rfl) (by kernel_rfl) (by kernel_rfl) (by kernel_rfl) (fun _ d _ _ _ h => by cases d <;> exact h) ⟨⟨w'.drew, (Upd.refl _ _).drew⟩, rfl⟩ ?_
  refine plan_next ?_
  simp only [opsAt, List.map_cons, List.map_nil, List.getElem?_toArray, List.getElem?_cons_zero, List.getElem?_cons_succ, Option.getD_some]
  repeat (go_big_quiet_step (fail))
  refine wpQuiet_nil ?_
  refine plan_one rfl ?_
  go_wp2_with fail
  have U0 : Upd [] w' w'.drew := (Upd.refl _ _).drew
  refine (E.out _ (H.out.upd0 U0)).mono ?_
  rintro e w1 ⟨rfl, hB⟩
  have U : Upd [] w' w1 := U0.trans (Upd.of_below hB)
  have H1 := Lib.hid (H.out.upd0 U)
  clear U0 hB
  go_wp2_with fail
  refine plan_same ⟨⟨w1, U.mono (by simp)⟩, rfl⟩ ?_
  refine plan_next ?_
  simp only [opsAt, List.map_cons, List.map_nil, List.getElem?_toArray, List.getElem?_cons_zero, List.getElem?_cons_succ, Option.getD_some]
  repeat (go_big_quiet_step (fail))
  refine wpQuiet_nil ?_
  refine plan_one rfl ?_
  have cd : w1.cell? ⟨d, i, none⟩ = some (.int .u64 ((nth l i : Nat) : Int)) := by rw [cells_of H1.out.data]; exact nums_nth .u64 l i hi
  have fd : w1.frozen? ⟨d, i, none⟩ = false := free_of H1.out.data i
  go_wp2_with fail
  have U2 : Upd [d] w' (w1.setCell ⟨d, i, none⟩ (.int .u64 (enc v : Int))) := (U.mono (by simp)).setCell (by simp) _
  have H2 := Lib.hid (H1.out.set i (enc v) (by omega))
  generalize w1.setCell ⟨d, i, none⟩ (.int .u64 (enc v : Int)) = w2 at U2 H2 ⊢
  refine plan_same ⟨⟨w2, U2⟩, rfl⟩ ?_
  refine plan_last ?_
  simp only [opsAt, List.map_nil]
  refine wpQuiet_nil ?_
  unfold planEnd
  go_wp2_with fail
  refine (TH2.out _ H2.out).mono ?_
  rintro e w3 ⟨rfl, rfl⟩
  go_wp2_with fail
  go_ret
  exact ⟨rfl, H2.out, U2⟩
end Go.Proofs.YtmdjhahafjlebaaGreatDoor

namespace Go.Proofs.YtmdjhahafjlebaaGreatDoor
open Go.RowKit Go.Dio
set_option linter.unusedSimpArgs false
set_option linter.unusedVariables false

theorem Put_out (T : TypeId) (b d : Nat) (l : List Nat) (f : Nat) (i v : Int) (w : World) (h : RowAt T b d l f w) (hi : inn l i = false) :
    Calls Tryz.prog 51 #[.pointer (some ⟨b, 0, none⟩), .int .i64 i, .int .u32 v] w fun e w' => e = .returned (.bool false) ∧ w' = w := by
  have TH := Lib.hid (there_calls T b d l f i w h)
  rw [hi] at TH
  clear h
  go_enter Tryz.func51, Tryz.ntmps51
  go_wp2_with (fail)
  refine TH.out.mono ?_
  rintro e w' ⟨rfl, rfl⟩
  go_wp2_with (fail)
  refine TH.out.mono ?_
  rintro e w' ⟨rfl, rfl⟩
  go_wp2_with (fail)
  go_ret
  exact ⟨rfl, rfl⟩

theorem inn_iff {l : List Nat} {i : Int} (h : inn l i = true) : ∃ k : Nat, i = (k : Int) ∧ k < l.length := by
  have := of_decide_eq_true h
  exact ⟨i.toNat, by omega, by omega⟩

theorem Put_calls (T : TypeId) (b d : Nat) (l : List Nat) (f : Nat) (i : Int) (v : Nat) (w : World) (h : RowAt T b d l f w) (hv : v < 2 ^ 32) :
    Calls Tryz.prog 51 #[.pointer (some ⟨b, 0, none⟩), .int .i64 i, .int .u32 (v : Int)] w fun e w' => e = .returned (.bool (inn l i)) ∧ RowAt T b d (putL l i v) f w' ∧ Upd [d] w w' := by
  cases hi : inn l i
  · rw [putL, hi]
    refine (Put_out T b d l f i v w h hi).mono ?_
    rintro e w' ⟨rfl, rfl⟩
    exact ⟨rfl, h, Upd.refl _ _⟩
  · rw [putL, hi]
    obtain ⟨k, rfl, hk⟩ := inn_iff hi
    exact Put_in T b d l f k v w h hk hv

set_option maxHeartbeats 1000000 in
theorem Peek_calls (T : TypeId) (b d : Nat) (l : List Nat) (f : Nat) (i : Int) (w : World) (h : RowAt T b d l f w) :
    Calls Tryz.prog 46 #[.pointer (some ⟨b, 0, none⟩), .int .i64 i] w fun e w' => e = .returned (.tuple #[.int .u32 ((peekL l i).1 : Int), .int .i64 ((peekL l i).2 : Int)]) ∧ Below w.heap.size w w' := by
  have TH := Lib.hid (there_calls T b d l f i w h)
  cases hi : inn l i
  · rw [hi] at TH
    rw [peekL, hi]
    clear h hi
    go_enter Tryz.func46, Tryz.ntmps46
    go_wp2_with (fail)
    refine TH.out.mono ?_
    rintro e w' ⟨rfl, rfl⟩
    go_wp2_with (fail)
    go_ret2
    exact ⟨rfl, Below.refl _ _⟩
  · rw [hi] at TH
    rw [peekL, hi]
    obtain ⟨k, rfl, hk⟩ := inn_iff hi
    have hsm := nth_lt h.small (by decide) k
    have D := Lib.hid (Decode_calls (nth l k) w hsm h.tz)
    have c0 : w.cell? ⟨b, 0, none⟩ = some (.slice (some ⟨d, 0, none⟩) l.length l.length) := by rw [cells_of h.head]; rfl
    have cd : w.cell? ⟨d, k, none⟩ = some (.int .u64 ((nth l k : Nat) : Int)) := by rw [cells_of h.data]; exact nums_nth .u64 l k hk
    have hlen := h.len
    rw [Int.toNat_natCast, if_pos rfl]
    generalize nth l k = x at D cd hsm ⊢
    obtain ⟨y, z, hyz⟩ : ∃ y z, dec x = (y, z) := ⟨_, _, rfl⟩
    rw [hyz] at D ⊢
    generalize l.length = n at *
    clear h hi hyz
    go_enter Tryz.func46, Tryz.ntmps46
    go_wp2_with (fail)
    refine TH.out.mono ?_
    rintro e w' ⟨rfl, rfl⟩
    go_wp2_with (fail)
    refine D.out.mono ?_
    rintro e w' ⟨rfl, hb⟩
    go_wp2_with (fail)
    go_ret2
    exact ⟨rfl, hb⟩

theorem getL_other {l : List Nat} {i : Int} (h : (peekL l i).2 ≠ 1) : getL l i = l ∧ getF l i = 0 := by
  unfold peekL at h
  unfold getL getF
  cases hi : inn l i
  · simp
  · rw [hi, if_pos rfl] at h
    simp [h]
theorem getL_fixed {l : List Nat} {i : Int} (h : (peekL l i).2 = 1) : ∃ k : Nat, i = (k : Int) ∧ k < l.length ∧ getL l i = l.set k (mend (nth l k)).1 ∧ getF l i = 1 := by
  unfold peekL at h
  unfold getL getF
  cases hi : inn l i
  · rw [hi] at h; simp at h
  · obtain ⟨k, rfl, hk⟩ := inn_iff hi
    rw [hi, if_pos rfl] at h
    refine ⟨k, rfl, hk, ?_, ?_⟩
    · rw [h]; simp
    · rw [h]; simp

set_option maxHeartbeats 1000000 in
theorem Get_calls (T : TypeId) (b d : Nat) (l : List Nat) (f : Nat) (i : Int) (w : World) (h : RowAt T b d l f w) (hf : f < 9223372036854775806) :
    Calls Tryz.prog 105 #[.pointer (some ⟨b, 0, none⟩), .int .i64 i] w fun e w' => e = .returned (.tuple #[.int .u32 ((peekL l i).1 : Int), .int .i64 ((peekL l i).2 : Int)]) ∧ RowAt T b d (getL l i) (f + getF l i) w' ∧ Upd [b, d] w w' := by
  have P := Lib.hid (Peek_calls T b d l f i w h)
  have H := Lib.hid h
  have hz : (peekL l i).2 ≤ 2 := by
    unfold peekL; split
    · exact mend_st _
    · exact Nat.le_refl _
  by_cases h1 : (peekL l i).2 = 1
  · obtain ⟨k, rfl, hk, e1, e2⟩ := getL_fixed h1
    rw [e1, e2]
    obtain ⟨y, z, hyz⟩ : ∃ y z, peekL l (k : Int) = (y, z) := ⟨_, _, rfl⟩
    rw [hyz] at P h1 hz ⊢
    simp only at h1 hz
    subst h1
    have hsm := nth_lt h.small (by decide) k
    have hml := mend_lt (nth l k)
    have M := Lib.hid fun w' (h' : Tz w') => Mend_calls (nth l k) w' hsm h'
    obtain ⟨my, mz, hm⟩ : ∃ y z, mend (nth l k) = (y, z) := ⟨_, _, rfl⟩
    rw [hm] at M hml ⊢
    simp only at M hml ⊢
    have hlen := h.len
    have hx : ∀ x : Near [d] w, x.1.cell? ⟨b, 0, none⟩ = some (.slice (some ⟨d, 0, none⟩) l.length l.length) := fun x => by rw [cells_of (x.2.keep h.head (by simpa using h.ne))]; rfl
    clear h e1 e2 hyz hm
    go_enter Tryz.func105, Tryz.ntmps105
    go_wp2_with (fail)
    refine P.out.mono ?_
    rintro e w1 ⟨rfl, hB⟩
    have U1 : Upd [] w w1 := Upd.of_below hB
    clear hB
    replace H := Lib.hid (H.out.upd0 U1)
    go_wp2_with (fail)
    refine wp_region_plan (fun z => ∃ x : Near [d] w1, z = x.1) [([0, 1, 2, 3, 4, 5, 6, 7, 8, 9, 10], 11), ([], 12), ([13, 14, 15, 16], 17)] [] (by kernel_rfl) (by kernel_rfl) (by kernel_rfl) (by kernel_rfl) (fun _ d _ _ _ h => by cases d <;> exact h) ⟨⟨w1.drew, (Upd.refl _ _).drew⟩, rfl⟩ ?_
    have hy : ∀ x : Near [d] w1, x.1.cell? ⟨b, 0, none⟩ = some (.slice (some ⟨d, 0, none⟩) l.length l.length) := fun x => by rw [cells_of (x.2.keep H.out.head (by simpa using H.out.ne))]; rfl
    refine plan_next ?_
    simp only [opsAt, List.map_cons, List.map_nil, List.getElem?_toArray, List.getElem?_cons_zero, List.getElem?_cons_succ, Option.getD_some]
    repeat (go_big_quiet_step (fail))
    refine wpQuiet_nil ?_
    refine plan_one rfl ?_
    have U0 : Upd [] w1 w1.drew := (Upd.refl _ _).drew
    have H1 := Lib.hid (H.out.upd0 U0)
    have cd : w1.drew.cell? ⟨d, k, none⟩ = some (.int .u64 ((nth l k : Nat) : Int)) := by rw [cells_of H1.out.data]; exact nums_nth .u64 l k hk
    go_wp2_with fail
    refine plan_same ⟨⟨_, U0.mono (by simp)⟩, rfl⟩ ?_
    refine plan_next ?_
    simp only [opsAt, List.map_cons, List.map_nil, List.getElem?_toArray, List.getElem?_cons_zero, List.getElem?_cons_succ, Option.getD_some]
    refine wpQuiet_nil ?_
    refine plan_one rfl ?_
    go_wp2_with fail
    refine (M.out _ H1.out.tz).mono ?_
    rintro e w2 ⟨rfl, hB⟩
    have U2 : Upd [] w1 w2 := U0.trans (Upd.of_below hB)
    have H2 := Lib.hid (H.out.upd0 U2)
    clear U0 hB H1 cd
    go_wp2_with fail
    refine plan_same ⟨⟨_, U2.mono (by simp)⟩, rfl⟩ ?_
    refine plan_next ?_
    simp only [opsAt, List.map_cons, List.map_nil, List.getElem?_toArray, List.getElem?_cons_zero, List.getElem?_cons_succ, Option.getD_some]
    repeat (go_big_quiet_step (fail))
    refine wpQuiet_nil ?_
    refine plan_one rfl ?_
    have cd : w2.cell? ⟨d, k, none⟩ = some (.int .u64 ((nth l k : Nat) : Int)) := by rw [cells_of H2.out.data]; exact nums_nth .u64 l k hk
    have fd : w2.frozen? ⟨d, k, none⟩ = false := free_of H2.out.data k
    go_wp2_with fail
    have U3 : Upd [d] w1 (w2.setCell ⟨d, k, none⟩ (.int .u64 (my : Int))) := (U2.mono (by simp)).setCell (by simp) _
    have H3 := Lib.hid (H2.out.set k my (by omega))
    generalize w2.setCell ⟨d, k, none⟩ (.int .u64 (my : Int)) = w3 at U3 H3 ⊢
    refine plan_same ⟨⟨w3, U3⟩, rfl⟩ ?_
    refine plan_last ?_
    simp only [opsAt, List.map_nil]
    refine wpQuiet_nil ?_
    unfold planEnd
    have c1 : w3.cell? ⟨b, 1, none⟩ = some (.int .i64 (f : Int)) := by rw [cells_of H3.out.head]; rfl
    have f1 : w3.frozen? ⟨b, 1, none⟩ = false := free_of H3.out.head 1
    go_wp2_with fail
    go_ret2
    have hf1 : ((f : Int) + 1) = ((f + 1 : Nat) : Int) := by simp
    refine ⟨rfl, ?_, ?_⟩
    · rw [hf1]; exact H3.out.fix (f + 1)
    · exact (U1.mono (by simp)).trans ((U3.mono (by simp)).setCell (p := ⟨b, 1, none⟩) (by simp) _)
  · obtain ⟨e1, e2⟩ := getL_other h1
    rw [e1, e2]
    obtain ⟨y, z, hyz⟩ : ∃ y z, peekL l i = (y, z) := ⟨_, _, rfl⟩
    rw [hyz] at P h1 hz ⊢
    simp only at h1 hz
    have hne : ((z : Int) == 1) = false := by simp; omega
    clear h e1 e2 hyz
    go_enter Tryz.func105, Tryz.ntmps105
    go_wp2_with (fail)
    refine P.out.mono ?_
    rintro e w1 ⟨rfl, hB⟩
    go_wp2_with (fail)
    go_ret2
    exact ⟨rfl, H.out.upd0 (Upd.of_below hB), Upd.of_below hB⟩
end Go.Proofs.YtmdjhahafjlebaaGreatDoor
