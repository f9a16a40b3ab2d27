/- Registers that mend themselves, in memory: New, Read, Write, Scrub, Flip, Bits, Fixes. -/
import Derived.Test.YtmdjhahafjlebaaGreatDoorQD16
import Derived.Test.YtmdjhahafjlebaaGreatDoorQD05
import Derived.Test.YtmdjhahafjlebaaGreatDoorQD02
import Derived.Deep.LoopGhost
namespace Go.Proofs.YtmdjhahafjlebaaGreatDoor
open Go.RowKit Go.Dio
set_option linter.unusedSimpArgs false
set_option linter.unusedVariables false

/-- Registers at block fb, their row at b, d. -/
structure FileAt (fb b d : Nat) (l : List Nat) (f at' : Nat) (w : World) : Prop where
  cell : w.heap[fb]? = some (.cells #[.pointer (some ⟨b, 0, none⟩), .int .i64 (at' : Int)] 105 (0, 0))
  row : RowAt 108 b d l f w
  nb : fb ≠ b
  nd : fb ≠ d
  f0 : fb ≠ 0

theorem FileAt.upd {fb b d : Nat} {l : List Nat} {f at' : Nat} {S : List Nat} {w w' : World} (h : FileAt fb b d l f at' w) (u : Upd S w w') (h1 : fb ∉ S) (h2 : b ∉ S) (h3 : d ∉ S) (hg : 0 ∉ S) : FileAt fb b d l f at' w' :=
  ⟨u.keep h.cell h1, h.row.upd u h2 h3 hg, h.nb, h.nd, h.f0⟩
theorem FileAt.upd0 {fb b d : Nat} {l : List Nat} {f at' : Nat} {w w' : World} (h : FileAt fb b d l f at' w) (u : Upd [] w w') : FileAt fb b d l f at' w' := h.upd u (by simp) (by simp) (by simp) (by simp)
/-- Behind a call that turns the row. -/
theorem FileAt.step {fb b d : Nat} {l l' : List Nat} {f f' at' : Nat} {S : List Nat} {w w' : World} (h : FileAt fb b d l f at' w) (r : RowAt 108 b d l' f' w') (u : Upd S w w') (hS : ∀ x ∈ S, x = b ∨ x = d) : FileAt fb b d l' f' at' w' :=
  ⟨u.keep h.cell (fun hx => by have := h.nb; have := h.nd; rcases hS _ hx with e | e <;> omega), r, h.nb, h.nd, h.f0⟩
def fileA (fb b d : Nat) (l : List Nat) (f at' : Nat) : Ast :=
  ⟨[fb, b, d], FileAt fb b d l f at', fun _ _ _ h u hb hg => h.upd u (hb fb (by simp)) (hb b (by simp)) (hb d (by simp)) hg⟩

theorem peek_wrap (l : List Nat) (i : Int) (hl : l.length ≤ 2048) (h0 : -9223372036854775808 ≤ i) (h1 : i ≤ 9223372036854775807) (j : Int) (hj : j = i - 1 ∨ (j = 9223372036854775807 ∧ i < 0)) : inn l j = inn l (i - 1) := by
  rcases hj with rfl | ⟨rfl, h⟩
  · rfl
  · rw [inn_not (.inr (by omega)), inn_not (.inl (by omega))]

set_option maxHeartbeats 1000000 in
theorem FNew_calls (w : World) (hT : Tz w) :
    Calls Tryz.prog 32 #[] w fun e w' => e = .returned (.pointer (some ⟨w.heap.size + 2, 0, none⟩)) ∧ FileAt (w.heap.size + 2) (w.heap.size + 1) w.heap.size (List.replicate 31 0) 0 0 w' ∧ Upd [] w w' ∧ w'.heap.size = w.heap.size + 3 := by
  have hN : Calls Tryz.prog 33 #[.int .i64 31] w fun e w' => e = .returned (.pointer (some ⟨w.heap.size + 1, 0, none⟩)) ∧ RowAt 108 (w.heap.size + 1) w.heap.size (List.replicate 31 0) 0 w' ∧ Upd [] w w' ∧ w'.heap.size = w.heap.size + 2 := New_size 31 31 w hT (by decide)
  have N := Lib.hid hN
  generalize hl : List.replicate 31 0 = l0 at N ⊢
  clear hl hN
  have hs := hT.lt
  go_enter Tryz.func32, Tryz.ntmps32
  go_wp2_with (fail)
  refine N.out.mono ?_
  rintro e w1 ⟨rfl, R, u, hz⟩
  replace R := Lib.hid R
  have hz' := Lib.hid hz
  clear hz
  go_wp2_with (fail)
  go_ret
  have hz := hz'.out
  have hlast := Go.heap_alloc_last w1 (.cells #[.pointer (some ⟨w.heap.size + 1, 0, none⟩), .int .i64 0] 105)
  refine ⟨by rw [hz]; rfl, ⟨?_, ?_, by omega, by omega, by omega⟩, u.alloc _, by simp [hz]⟩
  · rw [hz] at hlast; exact hlast
  · exact R.out.upd0 ((Upd.refl _ _).alloc _)

theorem FBits_calls (fb b d : Nat) (l : List Nat) (f at' : Nat) (w : World) (h : FileAt fb b d l f at' w) :
    Calls Tryz.prog 35 #[.pointer (some ⟨fb, 0, none⟩)] w fun e w' => e = .returned (.int .i64 ((l.length : Int) * 39)) ∧ w' = w := by
  have cb := cells_of h.cell
  have c0 : w.cell? ⟨fb, 0, none⟩ = some (.pointer (some ⟨b, 0, none⟩)) := by rw [cb]; rfl
  clear cb
  have H := Lib.hid h
  have B := Lib.hid (Bits_calls _ b d l f w h.row)
  clear h
  go_enter Tryz.func35, Tryz.ntmps35
  go_wp2_with (fail)
  refine (B.out).mono ?_
  rintro e w' ⟨rfl, rfl⟩
  go_wp2_with (fail)
  go_ret
  exact ⟨rfl, rfl⟩
theorem FFixes_calls (fb b d : Nat) (l : List Nat) (f at' : Nat) (w : World) (h : FileAt fb b d l f at' w) :
    Calls Tryz.prog 57 #[.pointer (some ⟨fb, 0, none⟩)] w fun e w' => e = .returned (.int .i64 (f : Int)) ∧ w' = w := by
  have cb := cells_of h.cell
  have c0 : w.cell? ⟨fb, 0, none⟩ = some (.pointer (some ⟨b, 0, none⟩)) := by rw [cb]; rfl
  clear cb
  have H := Lib.hid h
  have B := Lib.hid (Fixes_calls _ b d l f w h.row)
  clear h
  go_enter Tryz.func57, Tryz.ntmps57
  go_wp2_with (fail)
  refine (B.out).mono ?_
  rintro e w' ⟨rfl, rfl⟩
  go_wp2_with (fail)
  go_ret
  exact ⟨rfl, rfl⟩
theorem FFlip_calls (fb b d : Nat) (l : List Nat) (f at' : Nat) (c : Int) (w : World) (h : FileAt fb b d l f at' w) :
    Calls Tryz.prog 47 #[.pointer (some ⟨fb, 0, none⟩), .int .i64 c] w fun e w' => e = .returned (.bool (flipB l c)) ∧ FileAt fb b d (flipL l c) f at' w' ∧ Upd [d] w w' := by
  have cb := cells_of h.cell
  have c0 : w.cell? ⟨fb, 0, none⟩ = some (.pointer (some ⟨b, 0, none⟩)) := by rw [cb]; rfl
  clear cb
  have H := Lib.hid h
  have B := Lib.hid (Flip_calls _ b d l f c w h.row)
  clear h
  go_enter Tryz.func47, Tryz.ntmps47
  go_wp2_with (fail)
  refine B.out.mono ?_
  rintro e w' ⟨rfl, r, u⟩
  go_wp2_with (fail)
  go_ret
  exact ⟨rfl, H.out.step r u (by simp), u⟩

theorem wrap_pred (i : Int) (h0 : -9223372036854775808 ≤ i) (h1 : i ≤ 9223372036854775807) : RowKit.wrap64 (i - 1) = i - 1 ∨ (RowKit.wrap64 (i - 1) = 9223372036854775807 ∧ i < 0) := by
  unfold RowKit.wrap64; omega
theorem inn_pred {l : List Nat} (hl : l.length ≤ 2048) {i j : Int} (h0 : -9223372036854775808 ≤ i) (h1 : i ≤ 9223372036854775807) (hj : RowKit.wrap64 (i - 1) = j) : (inn l j = inn l (i - 1)) ∧ (inn l (i - 1) = true → j = i - 1) := by
  rcases wrap_pred i h0 h1 with h | ⟨h, h2⟩
  · rw [← hj, h]; exact ⟨rfl, fun _ => rfl⟩
  · rw [← hj, h]
    have e : inn l (i - 1) = false := inn_not (.inl (by omega))
    rw [e, inn_not (.inr (by omega))]
    exact ⟨rfl, fun h => by cases h⟩
theorem put_pred {l : List Nat} {i j : Int} (h : (inn l j = inn l (i - 1)) ∧ (inn l (i - 1) = true → j = i - 1)) (v : Nat) : putL l j v = putL l (i - 1) v := by
  unfold putL; rw [h.1]
  cases hc : inn l (i - 1)
  · rfl
  · rw [h.2 hc]
theorem get_pred {l : List Nat} {i j : Int} (h : (inn l j = inn l (i - 1)) ∧ (inn l (i - 1) = true → j = i - 1)) : peekL l j = peekL l (i - 1) ∧ getL l j = getL l (i - 1) ∧ getF l j = getF l (i - 1) := by
  unfold peekL getL getF; rw [h.1]
  cases hc : inn l (i - 1)
  · exact ⟨rfl, rfl, rfl⟩
  · rw [h.2 hc]; exact ⟨rfl, rfl, rfl⟩
theorem inn_wrap {l : List Nat} (hl : l.length ≤ 2048) : inn l 9223372036854775807 = false := inn_not (.inr (by omega))
def wrB (l : List Nat) (i : Int) : Bool := decide (i = 0) || inn l (i - 1)
def wrL (l : List Nat) (i : Int) (v : Nat) : List Nat := if i = 0 then l else putL l (i - 1) v
set_option maxHeartbeats 1000000 in
theorem FWrite_calls (fb b d : Nat) (l : List Nat) (f at' : Nat) (i : Int) (v : Nat) (w : World) (h : FileAt fb b d l f at' w) (hi0 : -9223372036854775808 ≤ i) (hi1 : i ≤ 9223372036854775807) (hv : v < 2 ^ 32) :
    Calls Tryz.prog 50 #[.pointer (some ⟨fb, 0, none⟩), .int .i64 i, .int .u32 (v : Int)] w fun e w' => e = .returned (.bool (wrB l i)) ∧ FileAt fb b d (wrL l i v) f at' w' ∧ Upd [d] w w' := by
  have cb := cells_of h.cell
  have c0 : w.cell? ⟨fb, 0, none⟩ = some (.pointer (some ⟨b, 0, none⟩)) := by rw [cb]; rfl
  clear cb
  have H := Lib.hid h
  have hlen := h.row.len
  by_cases h0 : i = 0
  · subst h0
    clear h c0
    go_enter Tryz.func50, Tryz.ntmps50
    go_wp2_with (fail)
    go_ret
    exact ⟨rfl, H.out, Upd.refl _ _⟩
  · have d0 : (i == 0) = false := by rw [beq_eq_false_iff_ne]; exact h0
    have e1 : wrB l i = inn l (i - 1) := by rw [wrB, decide_eq_false h0, Bool.false_or]
    have e2 : wrL l i v = putL l (i - 1) v := by rw [wrL, if_neg h0]
    rw [e1, e2]
    clear e1 e2
    obtain ⟨j, hj⟩ : ∃ j, RowKit.wrap64 (i - 1) = j := ⟨_, rfl⟩
    have hp := inn_pred hlen hi0 hi1 hj
    have B := Lib.hid (Put_calls _ b d l f j v w h.row hv)
    rw [hp.1, put_pred hp] at B
    generalize inn l (i - 1) = r1 at B ⊢
    clear h hi0 hi1 hp
    go_enter Tryz.func50, Tryz.ntmps50
    go_wp2_with (fail)
    refine B.out.mono ?_
    rintro e w' ⟨rfl, r, u⟩
    go_wp2_with (fail)
    go_ret
    exact ⟨rfl, H.out.step r u (by simp), u⟩

def rdV (l : List Nat) (i : Int) : Nat × Nat := if i = 0 then (0, 0) else peekL l (i - 1)
def rdL (l : List Nat) (i : Int) : List Nat := if i = 0 then l else getL l (i - 1)
def rdF (l : List Nat) (i : Int) : Nat := if i = 0 then 0 else getF l (i - 1)
set_option maxHeartbeats 1000000 in
theorem FRead_calls (fb b d : Nat) (l : List Nat) (f at' : Nat) (i : Int) (w : World) (h : FileAt fb b d l f at' w) (hi0 : -9223372036854775808 ≤ i) (hi1 : i ≤ 9223372036854775807) (hf : f < 9223372036854775806) :
    Calls Tryz.prog 78 #[.pointer (some ⟨fb, 0, none⟩), .int .i64 i] w fun e w' => e = .returned (.tuple #[.int .u32 ((rdV l i).1 : Int), .int .i64 ((rdV l i).2 : Int)]) ∧ FileAt fb b d (rdL l i) (f + rdF l i) at' w' ∧ Upd [b, d] w w' := by
  have cb := cells_of h.cell
  have c0 : w.cell? ⟨fb, 0, none⟩ = some (.pointer (some ⟨b, 0, none⟩)) := by rw [cb]; rfl
  clear cb
  have H := Lib.hid h
  have hlen := h.row.len
  by_cases h0 : i = 0
  · subst h0
    clear h c0
    go_enter Tryz.func78, Tryz.ntmps78
    go_wp2_with (fail)
    go_ret2
    exact ⟨rfl, H.out, Upd.refl _ _⟩
  · have d0 : (i == 0) = false := by rw [beq_eq_false_iff_ne]; exact h0
    have e1 : rdV l i = peekL l (i - 1) := by rw [rdV, if_neg h0]
    have e2 : rdL l i = getL l (i - 1) := by rw [rdL, if_neg h0]
    have e3 : rdF l i = getF l (i - 1) := by rw [rdF, if_neg h0]
    rw [e1, e2, e3]
    clear e1 e2 e3
    obtain ⟨j, hj⟩ : ∃ j, RowKit.wrap64 (i - 1) = j := ⟨_, rfl⟩
    have hp := inn_pred hlen hi0 hi1 hj
    have B := Lib.hid (Get_calls _ b d l f j w h.row hf)
    obtain ⟨p1, p2, p3⟩ := get_pred hp
    rw [p1, p2, p3] at B
    obtain ⟨y, z, hyz⟩ : ∃ y z, peekL l (i - 1) = (y, z) := ⟨_, _, rfl⟩
    rw [hyz] at B ⊢
    clear h hi0 hi1 hyz hp p1 p2 p3
    go_enter Tryz.func78, Tryz.ntmps78
    go_wp2_with (fail)
    refine B.out.mono ?_
    rintro e w' ⟨rfl, r, u⟩
    go_wp2_with (fail)
    go_ret2
    exact ⟨rfl, H.out.step r u (by simp), u⟩
end Go.Proofs.YtmdjhahafjlebaaGreatDoor

namespace Go.Proofs.YtmdjhahafjlebaaGreatDoor
open Go.RowKit Go.Dio
set_option linter.unusedSimpArgs false
set_option linter.unusedVariables false

theorem FileAt.next {fb b d : Nat} {l : List Nat} {f a : Nat} {w : World} (h : FileAt fb b d l f a w) (n : Nat) : FileAt fb b d l f n (w.setCell ⟨fb, 1, none⟩ (.int .i64 (n : Int))) := by
  refine ⟨?_, ?_, h.nb, h.nd, h.f0⟩
  · rw [heap_setCell_eq h.cell]; simp
  · exact h.row.upd ((Upd.refl [fb] w).setCell (p := ⟨fb, 1, none⟩) (by simp) _) (by have := h.nb; simp; omega) (by have := h.nd; simp; omega) (by have := h.f0; simp; omega)

set_option maxHeartbeats 1000000 in
theorem FScrub_calls (fb b d : Nat) (l : List Nat) (f a : Nat) (w : World) (h : FileAt fb b d l f a w) (hl : 0 < l.length) (ha : a < 2048) (hf : f < 9223372036854775806) :
    Calls Tryz.prog 67 #[.pointer (some ⟨fb, 0, none⟩)] w fun e w' => e = .returned (.int .i64 ((peekL l (a : Int)).2 : Int)) ∧ FileAt fb b d (getL l (a : Int)) (f + getF l (a : Int)) ((a + 1) % l.length) w' ∧ Upd [fb, b, d] w w' := by
  have H := Lib.hid h
  have hlen := h.row.len
  have SC := Lib.hid fun w' (h : FileAt fb b d l f a w') => Scrub_calls _ b d l f (a : Int) w' h.row hf
  have LN := Lib.hid fun w' (h : FileAt fb b d (getL l (a : Int)) (f + getF l (a : Int)) a w') => Len_calls _ b d _ _ w' h.row
  rw [getL_len] at LN
  obtain ⟨y, z, hyz⟩ : ∃ y z, peekL l (a : Int) = (y, z) := ⟨_, _, rfl⟩
  rw [hyz] at SC ⊢
  generalize getL l (a : Int) = l2 at SC LN ⊢
  generalize f + getF l (a : Int) = f2 at SC LN ⊢
  obtain ⟨N, hN⟩ : ∃ N, l.length = N := ⟨_, rfl⟩
  rw [hN] at LN hlen hl ⊢
  obtain ⟨a2, ha2⟩ : ∃ a2, a2 = (a + 1) % N := ⟨_, rfl⟩
  have HM := Lib.hid (show (((a : Int) + 1) % (N : Int)) = (a2 : Int) by rw [ha2]; simp)
  rw [← ha2]
  have ha3 : a2 < N := by rw [ha2]; exact Nat.mod_lt _ hl
  clear ha2
  have n0 : ∀ x : Near [b, d] w, x.1.cell? ⟨fb, 0, none⟩ = some (.pointer (some ⟨b, 0, none⟩)) := fun x => by rw [cells_of (x.2.keep h.cell (by have := h.nb; have := h.nd; simp; omega))]; rfl
  have n1 : ∀ x : Near [b, d] w, x.1.cell? ⟨fb, 1, none⟩ = some (.int .i64 (a : Int)) := fun x => by rw [cells_of (x.2.keep h.cell (by have := h.nb; have := h.nd; simp; omega))]; rfl
  clear h hyz hN
  go_enter Tryz.func67, Tryz.ntmps67
  go_wp2_with (fail)
  refine wp_region_plan (fun z => ∃ x : Near [b, d] w, z = x.1) [([0, 1, 2, 3, 4, 5, 6, 7], 8)] [9] (by kernel_rfl) (by kernel_rfl) (by kernel_rfl) (by kernel_rfl) (fun _ d _ _ _ h => by cases d <;> exact h) ⟨⟨(w).drew, (Upd.refl _ _).drew⟩, rfl⟩ ?_
  refine plan_next ?_
  simp only [opsAt, List.map_cons, List.map_nil, List.getElem?_toArray, List.getElem?_cons_zero, List.getElem?_cons_succ, Option.getD_some]
  repeat (go_big_quiet_step (fail))
  refine wpQuiet_nil ?_
  refine plan_one rfl ?_
  go_wp2_with fail
  refine (SC.out _ (H.out.upd0 (Upd.refl _ _).drew)).mono ?_
  rintro e w1 ⟨rfl, r, u⟩
  have H1 := Lib.hid ((H.out.upd0 (Upd.refl _ _).drew).step r u (by simp))
  have U1 : Upd [b, d] w w1 := ((Upd.refl [b, d] w).drew).trans u
  clear r u
  go_wp2_with fail
  refine plan_same ⟨⟨_, U1⟩, rfl⟩ ?_
  refine plan_last ?_
  simp only [opsAt, List.map_cons, List.map_nil, List.getElem?_toArray, List.getElem?_cons_zero, List.getElem?_cons_succ, Option.getD_some]
  repeat (go_big_quiet_step (fail))
  refine wpQuiet_nil ?_
  unfold planEnd
  go_wp2_with fail
  clear n0 n1
  have n0 : ∀ x : Near [] w1, x.1.cell? ⟨fb, 0, none⟩ = some (.pointer (some ⟨b, 0, none⟩)) := fun x => by rw [cells_of (x.2.keep H1.out.cell (by simp))]; rfl
  have n1 : ∀ x : Near [] w1, x.1.cell? ⟨fb, 1, none⟩ = some (.int .i64 (a : Int)) := fun x => by rw [cells_of (x.2.keep H1.out.cell (by simp))]; rfl
  refine wp_region_segs [([([0, 1, 2, 3, 4, 5, 6, 7, 8, 9], 10)], [11, 12, 13]), ([([], 14)], [])] (by kernel_rfl) (by kernel_rfl) (by kernel_rfl) (by kernel_rfl) (fun _ d _ _ _ h => by cases d <;> exact h) ?_
  refine segs_part (fun z => ∃ x : Near [] w1, z = x.1) ⟨⟨_, (Upd.refl _ _).drew⟩, rfl⟩ ?_
  refine part_next ?_
  simp only [opsAt, List.map_cons, List.map_nil, List.getElem?_toArray, List.getElem?_cons_zero, List.getElem?_cons_succ, Option.getD_some]
  repeat (go_big_quiet_step (fail))
  refine wpQuiet_nil ?_
  refine part_one rfl ?_
  go_wp2_with fail
  refine (LN.out _ (H1.out.upd0 (Upd.refl _ _).drew)).mono ?_
  rintro e w' ⟨rfl, rfl⟩
  go_wp2_with fail
  refine part_same ⟨⟨_, (Upd.refl _ _).drew⟩, rfl⟩ ?_
  have hm : (((a : Int) + 1) % (N : Int)) = (a2 : Int) := HM.out
  have hz : ((N : Int) == 0) = false := by rw [beq_eq_false_iff_ne]; omega
  refine part_last ?_
  simp only [opsAt, List.map_cons, List.map_nil, List.getElem?_toArray, List.getElem?_cons_zero, List.getElem?_cons_succ, Option.getD_some]
  repeat (go_big_quiet_step (fail))
  refine wpQuiet_nil ?_
  unfold partEnd
  clear n0 n1
  refine segs_part (fun z => ∃ x : Near [fb] w1, z = x.1) ⟨⟨_, (Upd.refl _ _).drew⟩, rfl⟩ ?_
  refine part_next ?_
  simp only [opsAt, List.map_cons, List.map_nil, List.getElem?_toArray, List.getElem?_cons_zero, List.getElem?_cons_succ, Option.getD_some]
  repeat (go_big_quiet_step (fail))
  refine wpQuiet_nil ?_
  refine part_one rfl ?_
  have H2 := Lib.hid (H1.out.upd0 (Upd.refl _ _).drew)
  have c1 : w1.drew.cell? ⟨fb, 1, none⟩ = some (.int .i64 (a : Int)) := by rw [cells_of H2.out.cell]; rfl
  have f1 : w1.drew.frozen? ⟨fb, 1, none⟩ = false := free_of H2.out.cell 1
  go_wp2_with fail
  have U3 : Upd [fb] w1 (w1.setCell ⟨fb, 1, none⟩ (.int .i64 (a2 : Int))).drew := ((Upd.refl [fb] w1).setCell (p := ⟨fb, 1, none⟩) (by simp) _).drew
  have H3 := Lib.hid ((H1.out.next a2).upd0 (Upd.refl _ _).drew)
  generalize (w1.setCell ⟨fb, 1, none⟩ (.int .i64 (a2 : Int))).drew = w3 at U3 H3 ⊢
  refine part_same ⟨⟨_, U3⟩, rfl⟩ ?_
  refine part_last ?_
  simp only [opsAt, List.map_cons, List.map_nil, List.getElem?_toArray, List.getElem?_cons_zero, List.getElem?_cons_succ, Option.getD_some]
  repeat (go_big_quiet_step (fail))
  refine wpQuiet_nil ?_
  unfold partEnd
  refine segs_end ?_
  clear hm hz c1 f1
  go_wp2_with fail
  go_ret
  exact ⟨rfl, H3.out, (U1.mono (by simp)).trans (U3.mono (by simp))⟩

/-- What all registers are, if none is bad. -/
def allB (l : List Nat) : Bool := l.all fun x => decide ((dec x).2 ≠ 2)
def allV (l : List Nat) : List Nat := 0 :: l.map fun x => (dec x).1
def zeros (n : Nat) : List Nat := List.replicate n 0
theorem info_r32 : (Tryz.prog.info? 41).map (·.size) = some 32 := by kernel_rfl
theorem allB_of {l : List Nat} {n : Nat} (hl : l.length = n) (h : ∀ j, j < n → (dec (nth l j)).2 ≠ 2) : allB l = true := by
  rw [allB, List.all_eq_true]
  intro x hx
  obtain ⟨j, hj, rfl⟩ := List.getElem_of_mem hx
  have := h j (by omega)
  rw [nth_eq l j hj] at this
  exact decide_eq_true this
theorem allB_not {l : List Nat} {j : Nat} (hj : j < l.length) (h : (dec (nth l j)).2 = 2) : allB l = false := by
  rw [Bool.eq_false_iff, allB]
  intro ha
  rw [List.all_eq_true] at ha
  have := of_decide_eq_true (ha l[j] (List.getElem_mem hj))
  rw [nth_eq l j hj] at h
  exact this h
theorem allV_of {l o : List Nat} (hl : l.length = 31) (ho : o.length = 32) (h0 : nth o 0 = 0) (h : ∀ j, j < 31 → nth o (j + 1) = (dec (nth l j)).1) : o = allV l := by
  refine List.ext_getElem (by simp [allV, hl, ho]) fun i h1 h2 => ?_
  rw [← nth_eq o i h1]
  cases i with
  | zero => rw [h0]; rfl
  | succ j =>
    have hj : j < 31 := by omega
    rw [h j hj, nth_eq l j (by omega)]
    simp [allV]

theorem alloc2_last (w : World) (o1 o2 : Obj) : ((w.alloc o1).alloc o2).heap[w.heap.size + 1]? = some o2 := by simpa using Go.heap_alloc_last (w.alloc o1) o2
theorem peek_nat {l : List Nat} {k : Nat} (h : k < l.length) : peekL l (k : Int) = dec (nth l k) := by
  rw [peekL, inn_of (by omega) (by omega)]; rfl
set_option maxRecDepth 20000 in
set_option maxHeartbeats 2000000 in
theorem FAll_calls (fb b d : Nat) (l : List Nat) (f a : Nat) (w : World) (h : FileAt fb b d l f a w) (hl : l.length = 31) :
    Calls Tryz.prog 45 #[.pointer (some ⟨fb, 0, none⟩)] w fun e w' => e = .returned (.tuple #[.agg (nums .u32 (if allB l then allV l else zeros 32)), .bool (allB l)]) ∧ Below w.heap.size w w' := by
  have H := Lib.hid h
  have PK := Lib.hid fun (i : Nat) w' (h : FileAt fb b d l f a w') => Peek_calls _ b d l f (i : Int) w' h.row
  have HL := Lib.hid hl
  clear h hl
  obtain ⟨V, hV⟩ : ∃ V, V = (if allB l then allV l else zeros 32) := ⟨_, rfl⟩
  obtain ⟨B, hB⟩ : ∃ B, B = allB l := ⟨_, rfl⟩
  rw [← hV, ← hB]
  have HV := Lib.hid hV
  have HBB := Lib.hid hB
  clear hV hB
  go_enter Tryz.func45, Tryz.ntmps45
  go_wp2_with (fail)
  go_loopw [5] (fun v5 wl => ∃ (i : Nat) (o : List Nat), v5 = .int .i64 (i : Int) ∧ 1 ≤ i ∧ i ≤ 32 ∧ Hid (o.length = 32 ∧ nth o 0 = 0 ∧ ∀ j, j + 1 < i → nth o (j + 1) = (dec (nth l j)).1 ∧ (dec (nth l j)).2 ≠ 2) ∧ Hid (wl.heap[w.heap.size + 1]? = some (.cells (nums .u32 o) 41 (0, 0))) ∧ Hid (wl.heap[w.heap.size]? = some (.cells (nums .u32 (zeros 32)) 41 (0, 0))) ∧ Hid (Upd [] w wl)) (fun v5 _ => (32 - intOf v5).toNat)
  case atStart => exact ⟨1, zeros 32, rfl, by omega, by omega, Lib.hid ⟨rfl, rfl, fun j hj => by omega⟩, Lib.hid (alloc2_last w _ _), Lib.hid (heap_old (Go.heap_alloc_last w _) _), Lib.hid (((Upd.refl _ _).alloc _).alloc _)⟩
  case round =>
    obtain ⟨i, o, rfl, hi1, hi2, HO, BO, BQ, U⟩ := hrel
    rcases Nat.lt_or_ge i 32 with h32 | h32
    · obtain ⟨k, rfl⟩ : ∃ k, i = k + 1 := ⟨i - 1, by omega⟩
      have c0 : wr.cell? ⟨fb, 0, none⟩ = some (.pointer (some ⟨b, 0, none⟩)) := by rw [cells_of (U.out.keep H.out.cell (by simp))]; rfl
      have hk1 : (((k + 1 : Nat) : Int) - 1) = (k : Int) := by omega
      have P := Lib.hid (PK.out k _ (H.out.upd0 U.out))
      rw [peek_nat (show k < l.length by rw [HL.out]; omega)] at P
      obtain ⟨y, z, hyz⟩ : ∃ y z, dec (nth l k) = (y, z) := ⟨_, _, rfl⟩
      rw [hyz] at P
      have HY := Lib.hid hyz
      clear hyz
      go_wp2_with (fail)
      refine P.out.mono ?_
      rintro e w1 ⟨rfl, hb⟩
      have u1 := Upd.of_below (S := []) hb
      have BO1 := Lib.hid (u1.keep BO.out (by simp))
      have BQ1 := Lib.hid (u1.keep BQ.out (by simp))
      replace U := Lib.hid (U.out.trans u1)
      clear hb u1 BO BQ c0 P hk1
      by_cases hz : z = 2
      · subst hz
        have hA : allB l = false := allB_not (show k < l.length by rw [HL.out]; omega) (by rw [HY.out])
        have HAl := Lib.hid hA
        clear hA
        go_wp2_with (first
          | go_skip
          | (refine L_store_row 41 (.tmp 2) (.tmp 24) rfl (by kernel_rfl) w.heap.size 0 rfl (nums .u32 (zeros 32)).toList 41 BQ1.out (nums .u32 (zeros 32)) rfl 32 info_r32 rfl (Nat.le_refl _) (nums_one _ _) ?_))
        intro w2 b2 u2 z2
        have B2 := Lib.hid b2
        have U2 := Lib.hid (U.out.then u2 (fun x hx hlt => by simp at hx; omega))
        clear b2 u2 z2
        go_wp2_with (fail)
        refine bodyPost_ret (results_row_tmp rfl _ _ w.heap.size 41 (nums .u32 (zeros 32)) _ _ _ rfl rfl B2.out Tryz.underlying41 rfl info_r32) rfl ⟨by rw [HV.out, HBB.out, HAl.out]; rfl, U2.out.below⟩
      · have dz : ((z : Int) == 2) = false := by rw [beq_eq_false_iff_ne]; omega
        have c1 : w1.cell? ⟨w.heap.size + 1, k + 1, none⟩ = some (.int .u32 ((nth o (k + 1) : Nat) : Int)) := by rw [cells_of BO1.out]; exact nums_nth .u32 o (k + 1) (by rw [HO.out.1]; omega)
        have f1 : w1.frozen? ⟨w.heap.size + 1, k + 1, none⟩ = false := free_of BO1.out _
        have ix : ((k + 1 : Nat) : Int).toNat = k + 1 := by omega
        go_wp2_with (fail)
        go_roundw
        case measure => simp [intOf]; omega
        case rel =>
          refine ⟨k + 2, o.set (k + 1) y, by go_num, by omega, by omega, Lib.hid ⟨by simpa using HO.out.1, ?_, fun j hj => ?_⟩, Lib.hid ?_, Lib.hid ?_, Lib.hid ?_⟩
          · rw [nth_set_ne (by omega)]; exact HO.out.2.1
          · by_cases e : j = k
            · subst e
              rw [nth_set_eq (by rw [HO.out.1]; omega), HY.out]
              exact ⟨rfl, hz⟩
            · rw [nth_set_ne (by omega)]
              exact HO.out.2.2 j (by omega)
          · rw [heap_setCell_eq BO1.out, nums_set]
          · rw [heap_setCell_ne _ _ (by simp)]; exact BQ1.out
          · exact U.out.setCell (p := ⟨w.heap.size + 1, k + 1, none⟩) (by simp) _
    · obtain rfl : i = 32 := by omega
      have hA : allB l = true := allB_of HL.out (fun j hj => (HO.out.2.2 j (by omega)).2)
      have hO : o = allV l := allV_of HL.out HO.out.1 HO.out.2.1 (fun j hj => (HO.out.2.2 j (by omega)).1)
      have HAl := Lib.hid hA
      have HOl := Lib.hid hO
      have so : (nums .u32 o).size = 32 := by rw [nums_size]; exact HO.out.1
      clear hA hO
      go_wp2_with (first
        | go_skip
        | (refine L_load 41 (.tmp 4) rfl (by kernel_rfl) _ _ rfl (nums .u32 o) (row_range BO.out) Tryz.underlying41 rfl 32 info_r32 so ?_)
        | (refine L_store_row 41 (.tmp 2) (.tmp 28) rfl (by kernel_rfl) w.heap.size 0 rfl (nums .u32 (zeros 32)).toList 41 BQ.out (nums .u32 o) rfl 32 info_r32 so (Nat.le_refl _) (nums_one _ _) ?_))
      intro w2 b2 u2 z2
      have e2 : (spl (nums .u32 (zeros 32)).toList 0 (nums .u32 o).toList).toArray = nums .u32 o := by
        rw [spl_all (by rw [Array.length_toList, Array.length_toList, so]; rfl)]
      rw [e2] at b2
      have B2 := Lib.hid b2
      have U2 := Lib.hid (U.out.then u2 (fun x hx hlt => by simp at hx; omega))
      clear b2 u2 z2 e2
      go_wp2_with (fail)
      refine bodyPost_ret (results_row_tmp rfl _ _ w.heap.size 41 (nums .u32 o) _ _ _ rfl rfl B2.out Tryz.underlying41 rfl (by rw [so]; exact info_r32)) rfl ⟨by rw [HV.out, HBB.out, HAl.out, HOl.out]; rfl, U2.out.below⟩
end Go.Proofs.YtmdjhahafjlebaaGreatDoor
