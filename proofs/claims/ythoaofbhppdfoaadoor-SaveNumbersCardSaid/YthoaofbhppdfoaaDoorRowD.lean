/- The document's own rows of protected words. -/
import Derived.Test.YthoaofbhppdfoaaDoorRowC
import Derived.Test.YthoaofbhppdfoaaDoorRef
namespace Go.Proofs.YthoaofbhppdfoaaDoor
open Go.RowKit Go.Dio
set_option linter.unusedSimpArgs false
set_option linter.unusedVariables false

set_option maxHeartbeats 1000000 in
theorem RPut_in (T : TypeId) (b d : Nat) (l : List Nat) (f i v : Nat) (w : World) (h : RowAt T b d l f w) (hi : i < l.length) (hv : v < 2 ^ 32) :
    Calls Tryd.prog 29 #[.pointer (some ⟨b, 0, none⟩), .int .i64 (i : Int), .int .u32 (v : Int)] w fun e w' => e = .returned (.bool true) ∧ RowAt T b d (l.set i (enc v)) f w' ∧ Upd [d] w w' := by
  have H := Lib.hid h
  have hlen := h.len
  have c0 : w.cell? ⟨b, 0, none⟩ = some (.slice (some ⟨d, 0, none⟩) l.length l.length) := by rw [cells_of h.head]; rfl
  have hx : ∀ x : Near [d] w, x.1.cell? ⟨b, 0, none⟩ = some (.slice (some ⟨d, 0, none⟩) l.length l.length) := fun x => by rw [cells_of (x.2.keep h.head (by simpa using h.ne))]; rfl
  have E := Lib.hid fun w' => RefEncode_calls v w' hv
  have hel := enc_lt hv
  have hd1 : decide ((l.length : Int) ≤ (i : Int)) = false := by rw [decide_eq_false_iff_not]; omega
  clear h
  go_enter Tryd.func29, Tryd.ntmps29
  go_wp2_with (fail)
  refine wp_region_plan (fun z => ∃ x : Near [d] w, z = x.1) [([0, 1, 2, 3, 4, 5], 6), ([7], 8)] [] (by kernel_rfl) (by kernel_rfl) (by kernel_rfl) (by kernel_rfl) (fun _ d _ _ _ h => by cases d <;> exact h) ⟨⟨w.drew, (Upd.refl _ _).drew⟩, rfl⟩ ?_
  refine plan_next ?_
  simp only [opsAt, List.map_cons, List.map_nil, List.getElem?_toArray, List.getElem?_cons_zero, List.getElem?_cons_succ, Option.getD_some]
  repeat (go_big_quiet_step (fail))
  refine wpQuiet_nil ?_
  refine plan_one rfl ?_
  go_wp2_with fail
  have U : Upd [] w w.drew := (Upd.refl _ _).drew
  refine (E.out _).mono ?_
  rintro e w1 ⟨rfl, rfl⟩
  have H1 := Lib.hid (H.out.upd0 U)
  go_wp2_with fail
  refine plan_same ⟨⟨w.drew, U.mono (by simp)⟩, rfl⟩ ?_
  refine plan_next ?_
  simp only [opsAt, List.map_cons, List.map_nil, List.getElem?_toArray, List.getElem?_cons_zero, List.getElem?_cons_succ, Option.getD_some]
  repeat (go_big_quiet_step (fail))
  refine wpQuiet_nil ?_
  refine plan_one rfl ?_
  have cd : w.drew.cell? ⟨d, i, none⟩ = some (.int .u64 ((nth l i : Nat) : Int)) := by rw [cells_of H1.out.data]; exact nums_nth .u64 l i hi
  have fd : w.drew.frozen? ⟨d, i, none⟩ = false := free_of H1.out.data i
  go_wp2_with fail
  have U2 : Upd [d] w (w.setCell ⟨d, i, none⟩ (.int .u64 (enc v : Int))).drew := ((Upd.refl [d] w).setCell (p := ⟨d, i, none⟩) (by simp) _).drew
  have H2 := Lib.hid ((H.out.set i (enc v) (by omega)).upd0 (Upd.refl _ _).drew)
  generalize (w.setCell ⟨d, i, none⟩ (.int .u64 (enc v : Int))).drew = w2 at U2 H2 ⊢
  refine plan_same ⟨⟨w2, U2⟩, rfl⟩ ?_
  refine plan_last ?_
  simp only [opsAt, List.map_nil]
  refine wpQuiet_nil ?_
  unfold planEnd
  go_wp2_with fail
  go_ret
  exact ⟨rfl, H2.out, U2⟩

theorem RPut_out (T : TypeId) (b d : Nat) (l : List Nat) (f : Nat) (i v : Int) (w : World) (h : RowAt T b d l f w) (hi : inn l i = false) :
    Calls Tryd.prog 29 #[.pointer (some ⟨b, 0, none⟩), .int .i64 i, .int .u32 v] w fun e w' => e = .returned (.bool false) ∧ w' = w := by
  have c0 : w.cell? ⟨b, 0, none⟩ = some (.slice (some ⟨d, 0, none⟩) l.length l.length) := by rw [cells_of h.head]; rfl
  have hi' := of_decide_eq_false hi
  clear h hi
  generalize l.length = n at *
  rcases Int.lt_or_le i 0 with h0 | h0
  · go_enter Tryd.func29, Tryd.ntmps29
    go_wp2_with (fail)
    go_ret
    exact ⟨rfl, rfl⟩
  · have h1 : (n : Int) ≤ i := by omega
    clear hi'
    go_enter Tryd.func29, Tryd.ntmps29
    go_wp2_with (fail)
    go_ret
    exact ⟨rfl, rfl⟩

theorem RPut_calls (T : TypeId) (b d : Nat) (l : List Nat) (f : Nat) (i : Int) (v : Nat) (w : World) (h : RowAt T b d l f w) (hv : v < 2 ^ 32) :
    Calls Tryd.prog 29 #[.pointer (some ⟨b, 0, none⟩), .int .i64 i, .int .u32 (v : Int)] w fun e w' => e = .returned (.bool (inn l i)) ∧ RowAt T b d (putL l i v) f w' ∧ Upd [d] w w' := by
  cases hi : inn l i
  · rw [putL, hi]
    refine (RPut_out T b d l f i v w h hi).mono ?_
    rintro e w' ⟨rfl, rfl⟩
    exact ⟨rfl, h, Upd.refl _ _⟩
  · rw [putL, hi]
    obtain ⟨k, rfl, hk⟩ := inn_iff hi
    exact RPut_in T b d l f k v w h hk hv

end Go.Proofs.YthoaofbhppdfoaaDoor
