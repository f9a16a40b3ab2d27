/- Checkpoints, in memory: Bits, Fixes, Flip, Scrub. -/
import Derived.Test.YthoaofbhppdfoaaDoorSave
namespace Go.Proofs.YthoaofbhppdfoaaDoor
open Go.RowKit Go.Dio
set_option linter.unusedSimpArgs false
set_option linter.unusedVariables false

theorem SBits_calls (T : TypeId) (sb b d : Nat) (l : List Nat) (f a : Nat) (w : World) (h : HoldAt T sb b d l f a w) :
    Calls Tryd.prog 17 #[.pointer (some ⟨sb, 0, none⟩)] w fun e w' => e = .returned (.int .i64 ((l.length : Int) * 39)) ∧ w' = w := by
  have cb := cells_of h.cell
  have c0 : w.cell? ⟨sb, 0, none⟩ = some (.pointer (some ⟨b, 0, none⟩)) := by rw [cb]; rfl
  have c1 : w.cell? ⟨sb, 1, none⟩ = some (.int .i64 (a : Int)) := by rw [cb]; rfl
  clear cb
  have H := Lib.hid h
  have B := Lib.hid (Bits_calls _ b d l f w h.row)
  clear h
  go_enter Tryd.func17, Tryd.ntmps17
  go_wp2_with (fail)
  refine (B.out).mono ?_
  rintro e w' ⟨rfl, rfl⟩
  go_wp2_with (fail)
  go_ret
  exact ⟨rfl, rfl⟩
theorem SFlip_calls (T : TypeId) (sb b d : Nat) (l : List Nat) (f a : Nat) (c : Int) (w : World) (h : HoldAt T sb b d l f a w) :
    Calls Tryd.prog 13 #[.pointer (some ⟨sb, 0, none⟩), .int .i64 c] w fun e w' => e = .returned (.bool (flipB l c)) ∧ HoldAt T sb b d (flipL l c) f a w' ∧ Upd [d] w w' := by
  have cb := cells_of h.cell
  have c0 : w.cell? ⟨sb, 0, none⟩ = some (.pointer (some ⟨b, 0, none⟩)) := by rw [cb]; rfl
  have c1 : w.cell? ⟨sb, 1, none⟩ = some (.int .i64 (a : Int)) := by rw [cb]; rfl
  clear cb
  have H := Lib.hid h
  have B := Lib.hid (Flip_calls _ b d l f c w h.row)
  clear h
  go_enter Tryd.func13, Tryd.ntmps13
  go_wp2_with (fail)
  refine B.out.mono ?_
  rintro e w' ⟨rfl, r, u⟩
  go_wp2_with (fail)
  go_ret
  exact ⟨rfl, H.out.step r u (by simp), u⟩
set_option maxHeartbeats 1000000 in
theorem SScrub_calls (T : TypeId) (sb b d : Nat) (l : List Nat) (f a : Nat) (w : World) (h : HoldAt T sb b d l f a w) (hl : 0 < l.length) (ha : a < 2048) (hf : f < 9223372036854775806) :
    Calls Tryd.prog 11 #[.pointer (some ⟨sb, 0, none⟩)] w fun e w' => e = .returned (.int .i64 ((peekL l (a : Int)).2 : Int)) ∧ HoldAt T sb b d (getL l (a : Int)) (f + getF l (a : Int)) ((a + 1) % l.length) w' ∧ Upd [sb, b, d] w w' := by
  have H := Lib.hid h
  have hlen := h.row.len
  have SC := Lib.hid fun w' (h : HoldAt T sb b d l f a w') => Scrub_calls _ b d l f (a : Int) w' h.row hf
  have LN := Lib.hid fun w' (h : HoldAt T sb b d (getL l (a : Int)) (f + getF l (a : Int)) a w') => Len_calls _ b d _ _ w' h.row
  rw [getL_len] at LN
  obtain ⟨y, z, hyz⟩ : ∃ y z, peekL l (a : Int) = (y, z) := ⟨_, _, rfl⟩
  rw [hyz] at SC ⊢
  generalize getL l (a : Int) = l2 at SC LN ⊢
  generalize f + getF l (a : Int) = f2 at SC LN ⊢
  obtain ⟨N, hN⟩ : ∃ N, l.length = N := ⟨_, rfl⟩
  rw [hN] at LN hlen hl ⊢
  obtain ⟨a2, ha2⟩ : ∃ a2, a2 = (a + 1) % N := ⟨_, rfl⟩
  have HM := Lib.hid (show (((a : Int) + 1) % (N : Int)) = (a2 : Int) by rw [ha2]; simp)
  rw [← ha2]
  have ha3 : a2 < N := by rw [ha2]; exact Nat.mod_lt _ hl
  clear ha2
  have n0 : ∀ x : Near [b, d] w, x.1.cell? ⟨sb, 0, none⟩ = some (.pointer (some ⟨b, 0, none⟩)) := fun x => by rw [cells_of (x.2.keep h.cell (by have := h.nb; have := h.nd; simp; omega))]; rfl
  have n1 : ∀ x : Near [b, d] w, x.1.cell? ⟨sb, 1, none⟩ = some (.int .i64 (a : Int)) := fun x => by rw [cells_of (x.2.keep h.cell (by have := h.nb; have := h.nd; simp; omega))]; rfl
  clear h hyz hN
  go_enter Tryd.func11, Tryd.ntmps11
  go_wp2_with (fail)
  refine wp_region_plan (fun z => ∃ x : Near [b, d] w, z = x.1) [([0, 1, 2, 3, 4, 5, 6, 7], 8)] [9] (by kernel_rfl) (by kernel_rfl) (by kernel_rfl) (by kernel_rfl) (fun _ d _ _ _ h => by cases d <;> exact h) ⟨⟨(w).drew, (Upd.refl _ _).drew⟩, rfl⟩ ?_
  refine plan_next ?_
  simp only [opsAt, List.map_cons, List.map_nil, List.getElem?_toArray, List.getElem?_cons_zero, List.getElem?_cons_succ, Option.getD_some]
  repeat (go_big_quiet_step (fail))
  refine wpQuiet_nil ?_
  refine plan_one rfl ?_
  go_wp2_with fail
  refine (SC.out _ (H.out.upd0 (Upd.refl _ _).drew)).mono ?_
  rintro e w1 ⟨rfl, r, u⟩
  have H1 := Lib.hid ((H.out.upd0 (Upd.refl _ _).drew).step r u (by simp))
  have U1 : Upd [b, d] w w1 := ((Upd.refl [b, d] w).drew).trans u
  clear r u
  go_wp2_with fail
  refine plan_same ⟨⟨_, U1⟩, rfl⟩ ?_
  refine plan_last ?_
  simp only [opsAt, List.map_cons, List.map_nil, List.getElem?_toArray, List.getElem?_cons_zero, List.getElem?_cons_succ, Option.getD_some]
  repeat (go_big_quiet_step (fail))
  refine wpQuiet_nil ?_
  unfold planEnd
  go_wp2_with fail
  clear n0 n1
  have n0 : ∀ x : Near [] w1, x.1.cell? ⟨sb, 0, none⟩ = some (.pointer (some ⟨b, 0, none⟩)) := fun x => by rw [cells_of (x.2.keep H1.out.cell (by simp))]; rfl
  have n1 : ∀ x : Near [] w1, x.1.cell? ⟨sb, 1, none⟩ = some (.int .i64 (a : Int)) := fun x => by rw [cells_of (x.2.keep H1.out.cell (by simp))]; rfl
  refine wp_region_segs [([([0, 1, 2, 3, 4, 5, 6, 7, 8, 9], 10)], [11, 12, 13]), ([([], 14)], [])] (by kernel_rfl) (by kernel_rfl) (by kernel_rfl) (by kernel_rfl) (fun _ d _ _ _ h => by cases d <;> exact h) ?_
  refine segs_part (fun z => ∃ x : Near [] w1, z = x.1) ⟨⟨_, (Upd.refl _ _).drew⟩, rfl⟩ ?_
  refine part_next ?_
  simp only [opsAt, List.map_cons, List.map_nil, List.getElem?_toArray, List.getElem?_cons_zero, List.getElem?_cons_succ, Option.getD_some]
  repeat (go_big_quiet_step (fail))
  refine wpQuiet_nil ?_
  refine part_one rfl ?_
  go_wp2_with fail
  refine (LN.out _ (H1.out.upd0 (Upd.refl _ _).drew)).mono ?_
  rintro e w' ⟨rfl, rfl⟩
  go_wp2_with fail
  refine part_same ⟨⟨_, (Upd.refl _ _).drew⟩, rfl⟩ ?_
  have hm : (((a : Int) + 1) % (N : Int)) = (a2 : Int) := HM.out
  have hz : ((N : Int) == 0) = false := by rw [beq_eq_false_iff_ne]; omega
  refine part_last ?_
  simp only [opsAt, List.map_cons, List.map_nil, List.getElem?_toArray, List.getElem?_cons_zero, List.getElem?_cons_succ, Option.getD_some]
  repeat (go_big_quiet_step (fail))
  refine wpQuiet_nil ?_
  unfold partEnd
  clear n0 n1
  refine segs_part (fun z => ∃ x : Near [sb] w1, z = x.1) ⟨⟨_, (Upd.refl _ _).drew⟩, rfl⟩ ?_
  refine part_next ?_
  simp only [opsAt, List.map_cons, List.map_nil, List.getElem?_toArray, List.getElem?_cons_zero, List.getElem?_cons_succ, Option.getD_some]
  repeat (go_big_quiet_step (fail))
  refine wpQuiet_nil ?_
  refine part_one rfl ?_
  have H2 := Lib.hid (H1.out.upd0 (Upd.refl _ _).drew)
  have c1 : w1.drew.cell? ⟨sb, 1, none⟩ = some (.int .i64 (a : Int)) := by rw [cells_of H2.out.cell]; rfl
  have f1 : w1.drew.frozen? ⟨sb, 1, none⟩ = false := free_of H2.out.cell 1
  go_wp2_with fail
  have U3 : Upd [sb] w1 (w1.setCell ⟨sb, 1, none⟩ (.int .i64 (a2 : Int))).drew := ((Upd.refl [sb] w1).setCell (p := ⟨sb, 1, none⟩) (by simp) _).drew
  have H3 := Lib.hid ((H1.out.next a2).upd0 (Upd.refl _ _).drew)
  generalize (w1.setCell ⟨sb, 1, none⟩ (.int .i64 (a2 : Int))).drew = w3 at U3 H3 ⊢
  refine part_same ⟨⟨_, U3⟩, rfl⟩ ?_
  refine part_last ?_
  simp only [opsAt, List.map_cons, List.map_nil, List.getElem?_toArray, List.getElem?_cons_zero, List.getElem?_cons_succ, Option.getD_some]
  repeat (go_big_quiet_step (fail))
  refine wpQuiet_nil ?_
  unfold partEnd
  refine segs_end ?_
  clear hm hz c1 f1
  go_wp2_with fail
  go_ret
  exact ⟨rfl, H3.out, (U1.mono (by simp)).trans (U3.mono (by simp))⟩

end Go.Proofs.YthoaofbhppdfoaaDoor
