/- Rows of protected words in memory: there, Len, Bits, Fixes, Put. -/
import Derived.Test.YthoaofbhppdfoaaDoorRowM
import Derived.Test.YthoaofbhppdfoaaDoorMend
import Derived.Test.YthoaofbhppdfoaaDoorPlan
namespace Go.Proofs.YthoaofbhppdfoaaDoor
open Go.RowKit Go.Dio

/-- A row of type T at block b, its words at block d. -/
structure RowAt (T : TypeId) (b d : Nat) (l : List Nat) (f : Nat) (w : World) : Prop where
  head : w.heap[b]? = some (.cells #[.slice (some ⟨d, 0, none⟩) l.length l.length, .int .i64 (f : Int)] T (0, 0))
  data : w.heap[d]? = some (.cells (nums .u64 l) 63 (0, 0))
  ne : b ≠ d
  b0 : b ≠ 0
  d0 : d ≠ 0
  tz : Tz w
  small : ∀ x ∈ l, x < 2 ^ 64
  len : l.length ≤ 2048

theorem RowAt.upd {T : TypeId} {b d : Nat} {l : List Nat} {f : Nat} {S : List Nat} {w w' : World} (h : RowAt T b d l f w) (u : Upd S w w') (hb : b ∉ S) (hd : d ∉ S) (hg : 0 ∉ S) : RowAt T b d l f w' :=
  ⟨u.keep h.head hb, u.keep h.data hd, h.ne, h.b0, h.d0, h.tz.of_upd u hg, h.small, h.len⟩
theorem RowAt.upd0 {T : TypeId} {b d : Nat} {l : List Nat} {f : Nat} {w w' : World} (h : RowAt T b d l f w) (u : Upd [] w w') : RowAt T b d l f w' := h.upd u (by simp) (by simp) (by simp)
theorem RowAt.blt {T : TypeId} {b d : Nat} {l : List Nat} {f : Nat} {w : World} (h : RowAt T b d l f w) : b < w.heap.size := lt_of_block h.head
theorem RowAt.dlt {T : TypeId} {b d : Nat} {l : List Nat} {f : Nat} {w : World} (h : RowAt T b d l f w) : d < w.heap.size := lt_of_block h.data
/-- The row behind a store of a word. -/
theorem RowAt.set {T : TypeId} {b d : Nat} {l : List Nat} {f : Nat} {w : World} (h : RowAt T b d l f w) (i v : Nat) (hv : v < 2 ^ 64) : RowAt T b d (l.set i v) f (w.setCell ⟨d, i, none⟩ (.int .u64 (v : Int))) := by
  refine ⟨?_, ?_, h.ne, h.b0, h.d0, ?_, set_lt h.small hv, by simpa using h.len⟩
  · rw [heap_setCell_ne _ _ h.ne, h.head]; simp
  · rw [heap_setCell_eq h.data, nums_set]
  · exact h.tz.of_upd ((Upd.refl [d] w).setCell (p := ⟨d, i, none⟩) (by simp) _) (by have := h.d0; simp; omega)
theorem RowAt.fix {T : TypeId} {b d : Nat} {l : List Nat} {f : Nat} {w : World} (h : RowAt T b d l f w) (g : Nat) : RowAt T b d l g (w.setCell ⟨b, 1, none⟩ (.int .i64 (g : Int))) := by
  refine ⟨?_, ?_, h.ne, h.b0, h.d0, ?_, h.small, h.len⟩
  · rw [heap_setCell_eq h.head]; simp
  · rw [heap_setCell_ne _ _ h.ne.symm, h.data]
  · exact h.tz.of_upd ((Upd.refl [b] w).setCell (p := ⟨b, 1, none⟩) (by simp) _) (by have := h.b0; simp; omega)

theorem there_calls (T : TypeId) (b d : Nat) (l : List Nat) (f : Nat) (i : Int) (w : World) (h : RowAt T b d l f w) :
    Calls Tryd.prog 31 #[.pointer (some ⟨b, 0, none⟩), .int .i64 i] w fun e w' => e = .returned (.bool (inn l i)) ∧ w' = w := by
  have cb := cells_of h.head
  have c0 : w.cell? ⟨b, 0, none⟩ = some (.slice (some ⟨d, 0, none⟩) l.length l.length) := by rw [cb]; rfl
  clear cb h
  rcases Int.lt_or_le i 0 with h0 | h0
  · rw [inn_not (.inl h0)]
    go_enter Tryd.func31, Tryd.ntmps31
    go_wp2_with (fail)
    go_ret
    exact ⟨rfl, rfl⟩
  · rcases Int.lt_or_le i (l.length : Int) with h1 | h1
    · rw [inn_of h0 h1]
      generalize l.length = n at *
      go_enter Tryd.func31, Tryd.ntmps31
      go_wp2_with (fail)
      go_ret
      exact ⟨rfl, rfl⟩
    · rw [inn_not (.inr h1)]
      generalize l.length = n at *
      have hd : decide (i < (n : Int)) = false := by rw [decide_eq_false_iff_not]; omega
      go_enter Tryd.func31, Tryd.ntmps31
      go_wp2_with (fail)
      go_ret
      exact ⟨rfl, rfl⟩

theorem Len_calls (T : TypeId) (b d : Nat) (l : List Nat) (f : Nat) (w : World) (h : RowAt T b d l f w) :
    Calls Tryd.prog 27 #[.pointer (some ⟨b, 0, none⟩)] w fun e w' => e = .returned (.int .i64 (l.length : Int)) ∧ w' = w := by
  have cb := cells_of h.head
  have c0 : w.cell? ⟨b, 0, none⟩ = some (.slice (some ⟨d, 0, none⟩) l.length l.length) := by rw [cb]; rfl
  clear cb h
  generalize l.length = n at *
  go_enter Tryd.func27, Tryd.ntmps27
  go_wp2_with (fail)
  go_ret
  exact ⟨rfl, rfl⟩

theorem Bits_calls (T : TypeId) (b d : Nat) (l : List Nat) (f : Nat) (w : World) (h : RowAt T b d l f w) :
    Calls Tryd.prog 30 #[.pointer (some ⟨b, 0, none⟩)] w fun e w' => e = .returned (.int .i64 ((l.length : Int) * 39)) ∧ w' = w := by
  have cb := cells_of h.head
  have c0 : w.cell? ⟨b, 0, none⟩ = some (.slice (some ⟨d, 0, none⟩) l.length l.length) := by rw [cb]; rfl
  have hl := h.len
  clear cb h
  generalize l.length = n at *
  go_enter Tryd.func30, Tryd.ntmps30
  go_wp2_with (fail)
  go_ret
  exact ⟨by go_num, rfl⟩

set_option maxHeartbeats 1000000 in
theorem Put_in (T : TypeId) (b d : Nat) (l : List Nat) (f i v : Nat) (w : World) (h : RowAt T b d l f w) (hi : i < l.length) (hv : v < 2 ^ 32) :
    Calls Tryd.prog 19 #[.pointer (some ⟨b, 0, none⟩), .int .i64 (i : Int), .int .u32 (v : Int)] w fun e w' => e = .returned (.bool true) ∧ RowAt T b d (l.set i (enc v)) f w' ∧ Upd [d] w w' := by
  have H := Lib.hid h
  have hlen := h.len
  have hx : ∀ x : Near [d] w, x.1.cell? ⟨b, 0, none⟩ = some (.slice (some ⟨d, 0, none⟩) l.length l.length) := fun x => by rw [cells_of (x.2.keep h.head (by simpa using h.ne))]; rfl
  have E := Lib.hid fun w' (h : RowAt T b d l f w') => Encode_calls v w' hv h.tz
  have hel := enc_lt hv
  have TH := Lib.hid fun w' (h : RowAt T b d l f w') => there_calls T b d l f (i : Int) w' h
  have TH2 := Lib.hid fun w' (h : RowAt T b d (l.set i (enc v)) f w') => there_calls T b d (l.set i (enc v)) f (i : Int) w' h
  rw [inn_of (by omega) (by omega)] at TH
  rw [inn_of (by omega) (by rw [List.length_set]; omega)] at TH2
  clear h
  go_enter Tryd.func19, Tryd.ntmps19
  go_wp2_with (fail)
  refine (TH.out _ H.out).mono ?_
  rintro e w' ⟨rfl, rfl⟩
  go_wp2_with (fail)
  refine wp_region_plan (fun z => ∃ x : Near [d] w', z = x.1) [([0, 1, 2, 3, 4, 5], 6), ([7], 8)] [] (by kernel_rfl) (by kernel_rfl) (by kernel_rfl) (by kernel_rfl) (fun _ d _ _ _ h => by cases d <;> exact h) ⟨⟨w'.drew, (Upd.refl _ _).drew⟩, rfl⟩ ?_
  refine plan_next ?_
  simp only [opsAt, List.map_cons, List.map_nil, List.getElem?_toArray, List.getElem?_cons_zero, List.getElem?_cons_succ, Option.getD_some]
  repeat (go_big_quiet_step (fail))
  refine wpQuiet_nil ?_
  refine plan_one rfl ?_
  go_wp2_with fail
  have U0 : Upd [] w' w'.drew := (Upd.refl _ _).drew
  refine (E.out _ (H.out.upd0 U0)).mono ?_
  rintro e w1 ⟨rfl, hB⟩
  have U : Upd [] w' w1 := U0.trans (Upd.of_below hB)
  have H1 := Lib.hid (H.out.upd0 U)
  clear U0 hB
  go_wp2_with fail
  refine plan_same ⟨⟨w1, U.mono (by simp)⟩, rfl⟩ ?_
  refine plan_next ?_
  simp only [opsAt, List.map_cons, List.map_nil, List.getElem?_toArray, List.getElem?_cons_zero, List.getElem?_cons_succ, Option.getD_some]
  repeat (go_big_quiet_step (fail))
  refine wpQuiet_nil ?_
  refine plan_one rfl ?_
  have cd : w1.cell? ⟨d, i, none⟩ = some (.int .u64 ((nth l i : Nat) : Int)) := by rw [cells_of H1.out.data]; exact nums_nth .u64 l i hi
  have fd : w1.frozen? ⟨d, i, none⟩ = false := free_of H1.out.data i
  go_wp2_with fail
  have U2 : Upd [d] w' (w1.setCell ⟨d, i, none⟩ (.int .u64 (enc v : Int))) := (U.mono (by simp)).setCell (by simp) _
  have H2 := Lib.hid (H1.out.set i (enc v) (by omega))
  generalize w1.setCell ⟨d, i, none⟩ (.int .u64 (enc v : Int)) = w2 at U2 H2 ⊢
  refine plan_same ⟨⟨w2, U2⟩, rfl⟩ ?_
  refine plan_last ?_
  simp only [opsAt, List.map_nil]
  refine wpQuiet_nil ?_
  unfold planEnd
  go_wp2_with fail
  refine (TH2.out _ H2.out).mono ?_
  rintro e w3 ⟨rfl, rfl⟩
  go_wp2_with fail
  go_ret
  exact ⟨rfl, H2.out, U2⟩
end Go.Proofs.YthoaofbhppdfoaaDoor
