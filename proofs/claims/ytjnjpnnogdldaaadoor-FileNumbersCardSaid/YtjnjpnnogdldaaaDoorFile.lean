/- Registers that mend themselves, in memory: New, Read, Write, Scrub, Flip, Bits, Fixes. -/
import Derived.Test.YtjnjpnnogdldaaaDoorSep
namespace Go.Proofs.YtjnjpnnogdldaaaDoor
open Go.RowKit Go.Dio
set_option linter.unusedSimpArgs false
set_option linter.unusedVariables false

/-- Registers at block fb, their row at b, d. -/
structure FileAt (fb b d : Nat) (l : List Nat) (f at' : Nat) (w : World) : Prop where
  cell : w.heap[fb]? = some (.cells #[.pointer (some ⟨b, 0, none⟩), .int .i64 (at' : Int)] 102 (0, 0))
  row : RowAt 96 b d l f w
  nb : fb ≠ b
  nd : fb ≠ d
  f0 : fb ≠ 0

theorem FileAt.upd {fb b d : Nat} {l : List Nat} {f at' : Nat} {S : List Nat} {w w' : World} (h : FileAt fb b d l f at' w) (u : Upd S w w') (h1 : fb ∉ S) (h2 : b ∉ S) (h3 : d ∉ S) (hg : 0 ∉ S) : FileAt fb b d l f at' w' :=
  ⟨u.keep h.cell h1, h.row.upd u h2 h3 hg, h.nb, h.nd, h.f0⟩
theorem FileAt.upd0 {fb b d : Nat} {l : List Nat} {f at' : Nat} {w w' : World} (h : FileAt fb b d l f at' w) (u : Upd [] w w') : FileAt fb b d l f at' w' := h.upd u (by simp) (by simp) (by simp) (by simp)
/-- Behind a call that turns the row. -/
theorem FileAt.step {fb b d : Nat} {l l' : List Nat} {f f' at' : Nat} {S : List Nat} {w w' : World} (h : FileAt fb b d l f at' w) (r : RowAt 96 b d l' f' w') (u : Upd S w w') (hS : ∀ x ∈ S, x = b ∨ x = d) : FileAt fb b d l' f' at' w' :=
  ⟨u.keep h.cell (fun hx => by have := h.nb; have := h.nd; rcases hS _ hx with e | e <;> omega), r, h.nb, h.nd, h.f0⟩
def fileA (fb b d : Nat) (l : List Nat) (f at' : Nat) : Ast :=
  ⟨[fb, b, d], FileAt fb b d l f at', fun _ _ _ h u hb hg => h.upd u (hb fb (by simp)) (hb b (by simp)) (hb d (by simp)) hg⟩

theorem peek_wrap (l : List Nat) (i : Int) (hl : l.length ≤ 2048) (h0 : -9223372036854775808 ≤ i) (h1 : i ≤ 9223372036854775807) (j : Int) (hj : j = i - 1 ∨ (j = 9223372036854775807 ∧ i < 0)) : inn l j = inn l (i - 1) := by
  rcases hj with rfl | ⟨rfl, h⟩
  · rfl
  · rw [inn_not (.inr (by omega)), inn_not (.inl (by omega))]

set_option maxHeartbeats 1000000 in
theorem FNew_calls (w : World) (hT : Tz w) :
    Calls Tryd.prog 42 #[] w fun e w' => e = .returned (.pointer (some ⟨w.heap.size + 2, 0, none⟩)) ∧ FileAt (w.heap.size + 2) (w.heap.size + 1) w.heap.size (List.replicate 31 0) 0 0 w' ∧ Upd [] w w' ∧ w'.heap.size = w.heap.size + 3 := by
  have hN : Calls Tryd.prog 31 #[.int .i64 31] w fun e w' => e = .returned (.pointer (some ⟨w.heap.size + 1, 0, none⟩)) ∧ RowAt 96 (w.heap.size + 1) w.heap.size (List.replicate 31 0) 0 w' ∧ Upd [] w w' ∧ w'.heap.size = w.heap.size + 2 := New_size 31 31 w hT (by decide)
  have N := Lib.hid hN
  generalize hl : List.replicate 31 0 = l0 at N ⊢
  clear hl hN
  have hs := hT.lt
  go_enter Tryd.func42, Tryd.ntmps42
  go_wp2_with (fail)
  refine N.out.mono ?_
  rintro e w1 ⟨rfl, R, u, hz⟩
  replace R := Lib.hid R
  have hz' := Lib.hid hz
  clear hz
  go_wp2_with (fail)
  go_ret
  have hz := hz'.out
  have hlast := Go.heap_alloc_last w1 (.cells #[.pointer (some ⟨w.heap.size + 1, 0, none⟩), .int .i64 0] 102)
  refine ⟨by rw [hz]; rfl, ⟨?_, ?_, by omega, by omega, by omega⟩, u.alloc _, by simp [hz]⟩
  · rw [hz] at hlast; exact hlast
  · exact R.out.upd0 ((Upd.refl _ _).alloc _)

theorem FBits_calls (fb b d : Nat) (l : List Nat) (f at' : Nat) (w : World) (h : FileAt fb b d l f at' w) :
    Calls Tryd.prog 80 #[.pointer (some ⟨fb, 0, none⟩)] w fun e w' => e = .returned (.int .i64 ((l.length : Int) * 39)) ∧ w' = w := by
  have cb := cells_of h.cell
  have c0 : w.cell? ⟨fb, 0, none⟩ = some (.pointer (some ⟨b, 0, none⟩)) := by rw [cb]; rfl
  clear cb
  have H := Lib.hid h
  have B := Lib.hid (Bits_calls _ b d l f w h.row)
  clear h
  go_enter Tryd.func80, Tryd.ntmps80
  go_wp2_with (fail)
  refine (B.out).mono ?_
  rintro e w' ⟨rfl, rfl⟩
  go_wp2_with (fail)
  go_ret
  exact ⟨rfl, rfl⟩
theorem FFlip_calls (fb b d : Nat) (l : List Nat) (f at' : Nat) (c : Int) (w : World) (h : FileAt fb b d l f at' w) :
    Calls Tryd.prog 44 #[.pointer (some ⟨fb, 0, none⟩), .int .i64 c] w fun e w' => e = .returned (.bool (flipB l c)) ∧ FileAt fb b d (flipL l c) f at' w' ∧ Upd [d] w w' := by
  have cb := cells_of h.cell
  have c0 : w.cell? ⟨fb, 0, none⟩ = some (.pointer (some ⟨b, 0, none⟩)) := by rw [cb]; rfl
  clear cb
  have H := Lib.hid h
  have B := Lib.hid (Flip_calls _ b d l f c w h.row)
  clear h
  go_enter Tryd.func44, Tryd.ntmps44
  go_wp2_with (fail)
  refine B.out.mono ?_
  rintro e w' ⟨rfl, r, u⟩
  go_wp2_with (fail)
  go_ret
  exact ⟨rfl, H.out.step r u (by simp), u⟩

theorem wrap_pred (i : Int) (h0 : -9223372036854775808 ≤ i) (h1 : i ≤ 9223372036854775807) : RowKit.wrap64 (i - 1) = i - 1 ∨ (RowKit.wrap64 (i - 1) = 9223372036854775807 ∧ i < 0) := by
  unfold RowKit.wrap64; omega
theorem inn_pred {l : List Nat} (hl : l.length ≤ 2048) {i j : Int} (h0 : -9223372036854775808 ≤ i) (h1 : i ≤ 9223372036854775807) (hj : RowKit.wrap64 (i - 1) = j) : (inn l j = inn l (i - 1)) ∧ (inn l (i - 1) = true → j = i - 1) := by
  rcases wrap_pred i h0 h1 with h | ⟨h, h2⟩
  · rw [← hj, h]; exact ⟨rfl, fun _ => rfl⟩
  · rw [← hj, h]
    have e : inn l (i - 1) = false := inn_not (.inl (by omega))
    rw [e, inn_not (.inr (by omega))]
    exact ⟨rfl, fun h => by cases h⟩
theorem put_pred {l : List Nat} {i j : Int} (h : (inn l j = inn l (i - 1)) ∧ (inn l (i - 1) = true → j = i - 1)) (v : Nat) : putL l j v = putL l (i - 1) v := by
  unfold putL; rw [h.1]
  cases hc : inn l (i - 1)
  · rfl
  · rw [h.2 hc]
theorem get_pred {l : List Nat} {i j : Int} (h : (inn l j = inn l (i - 1)) ∧ (inn l (i - 1) = true → j = i - 1)) : peekL l j = peekL l (i - 1) ∧ getL l j = getL l (i - 1) ∧ getF l j = getF l (i - 1) := by
  unfold peekL getL getF; rw [h.1]
  cases hc : inn l (i - 1)
  · exact ⟨rfl, rfl, rfl⟩
  · rw [h.2 hc]; exact ⟨rfl, rfl, rfl⟩
theorem inn_wrap {l : List Nat} (hl : l.length ≤ 2048) : inn l 9223372036854775807 = false := inn_not (.inr (by omega))
def wrB (l : List Nat) (i : Int) : Bool := decide (i = 0) || inn l (i - 1)
def wrL (l : List Nat) (i : Int) (v : Nat) : List Nat := if i = 0 then l else putL l (i - 1) v
set_option maxHeartbeats 1000000 in
theorem FWrite_calls (fb b d : Nat) (l : List Nat) (f at' : Nat) (i : Int) (v : Nat) (w : World) (h : FileAt fb b d l f at' w) (hi0 : -9223372036854775808 ≤ i) (hi1 : i ≤ 9223372036854775807) (hv : v < 2 ^ 32) :
    Calls Tryd.prog 43 #[.pointer (some ⟨fb, 0, none⟩), .int .i64 i, .int .u32 (v : Int)] w fun e w' => e = .returned (.bool (wrB l i)) ∧ FileAt fb b d (wrL l i v) f at' w' ∧ Upd [d] w w' := by
  have cb := cells_of h.cell
  have c0 : w.cell? ⟨fb, 0, none⟩ = some (.pointer (some ⟨b, 0, none⟩)) := by rw [cb]; rfl
  clear cb
  have H := Lib.hid h
  have hlen := h.row.len
  by_cases h0 : i = 0
  · subst h0
    clear h c0
    go_enter Tryd.func43, Tryd.ntmps43
    go_wp2_with (fail)
    go_ret
    exact ⟨rfl, H.out, Upd.refl _ _⟩
  · have d0 : (i == 0) = false := by rw [beq_eq_false_iff_ne]; exact h0
    have e1 : wrB l i = inn l (i - 1) := by rw [wrB, decide_eq_false h0, Bool.false_or]
    have e2 : wrL l i v = putL l (i - 1) v := by rw [wrL, if_neg h0]
    rw [e1, e2]
    clear e1 e2
    obtain ⟨j, hj⟩ : ∃ j, RowKit.wrap64 (i - 1) = j := ⟨_, rfl⟩
    have hp := inn_pred hlen hi0 hi1 hj
    have B := Lib.hid (Put_calls _ b d l f j v w h.row hv)
    rw [hp.1, put_pred hp] at B
    generalize inn l (i - 1) = r1 at B ⊢
    clear h hi0 hi1 hp
    go_enter Tryd.func43, Tryd.ntmps43
    go_wp2_with (fail)
    refine B.out.mono ?_
    rintro e w' ⟨rfl, r, u⟩
    go_wp2_with (fail)
    go_ret
    exact ⟨rfl, H.out.step r u (by simp), u⟩

def rdV (l : List Nat) (i : Int) : Nat × Nat := if i = 0 then (0, 0) else peekL l (i - 1)
def rdL (l : List Nat) (i : Int) : List Nat := if i = 0 then l else getL l (i - 1)
def rdF (l : List Nat) (i : Int) : Nat := if i = 0 then 0 else getF l (i - 1)
set_option maxHeartbeats 1000000 in
theorem FRead_calls (fb b d : Nat) (l : List Nat) (f at' : Nat) (i : Int) (w : World) (h : FileAt fb b d l f at' w) (hi0 : -9223372036854775808 ≤ i) (hi1 : i ≤ 9223372036854775807) (hf : f < 9223372036854775806) :
    Calls Tryd.prog 47 #[.pointer (some ⟨fb, 0, none⟩), .int .i64 i] w fun e w' => e = .returned (.tuple #[.int .u32 ((rdV l i).1 : Int), .int .i64 ((rdV l i).2 : Int)]) ∧ FileAt fb b d (rdL l i) (f + rdF l i) at' w' ∧ Upd [b, d] w w' := by
  have cb := cells_of h.cell
  have c0 : w.cell? ⟨fb, 0, none⟩ = some (.pointer (some ⟨b, 0, none⟩)) := by rw [cb]; rfl
  clear cb
  have H := Lib.hid h
  have hlen := h.row.len
  by_cases h0 : i = 0
  · subst h0
    clear h c0
    go_enter Tryd.func47, Tryd.ntmps47
    go_wp2_with (fail)
    go_ret2
    exact ⟨rfl, H.out, Upd.refl _ _⟩
  · have d0 : (i == 0) = false := by rw [beq_eq_false_iff_ne]; exact h0
    have e1 : rdV l i = peekL l (i - 1) := by rw [rdV, if_neg h0]
    have e2 : rdL l i = getL l (i - 1) := by rw [rdL, if_neg h0]
    have e3 : rdF l i = getF l (i - 1) := by rw [rdF, if_neg h0]
    rw [e1, e2, e3]
    clear e1 e2 e3
    obtain ⟨j, hj⟩ : ∃ j, RowKit.wrap64 (i - 1) = j := ⟨_, rfl⟩
    have hp := inn_pred hlen hi0 hi1 hj
    have B := Lib.hid (Get_calls _ b d l f j w h.row hf)
    obtain ⟨p1, p2, p3⟩ := get_pred hp
    rw [p1, p2, p3] at B
    obtain ⟨y, z, hyz⟩ : ∃ y z, peekL l (i - 1) = (y, z) := ⟨_, _, rfl⟩
    rw [hyz] at B ⊢
    clear h hi0 hi1 hyz hp p1 p2 p3
    go_enter Tryd.func47, Tryd.ntmps47
    go_wp2_with (fail)
    refine B.out.mono ?_
    rintro e w' ⟨rfl, r, u⟩
    go_wp2_with (fail)
    go_ret2
    exact ⟨rfl, H.out.step r u (by simp), u⟩
end Go.Proofs.YtjnjpnnogdldaaaDoor
