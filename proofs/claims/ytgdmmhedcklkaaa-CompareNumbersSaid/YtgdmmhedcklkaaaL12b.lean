/- Law 12: 'same'. -/
import Derived.Test.YtgdmmhedcklkaaaL12a
namespace Go.Proofs.Ytgdmmhedcklkaaa
open Go.RowKit Go.Dio

theorem StV.OK.of_upd {s : StV} {w w' : World} (h : s.OK w) (hu : Upd [] w w') : s.OK w' := ⟨h.regs, h.csrs, h.mem.of_upd hu, h.cap, h.big⟩

set_option maxHeartbeats 2000000 in
theorem same_calls (A B P Q : Option Addr) (l m : List RetV) (p q : List Nat) (c1 c2 c3 c4 : Nat) (s t : StV) (w : World) (ha : RetsAt w A l) (hb : RetsAt w B m) (hp : NumsAt w .u32 P p) (hq : NumsAt w .u32 Q q) (hs : s.OK w) (ht : t.OK w)
    (hl : l.length < 9223372036854775807) (hm : m.length < 9223372036854775807) (hpl : p.length ≤ 9223372036854775807) (hqc : q.length ≤ c4) :
    Calls Try.prog 8 #[.slice A l.length c1, .slice B m.length c2, .slice P p.length c3, .slice Q q.length c4, .agg s.arr, .agg t.arr] w fun e w' => e = .returned (.bool true) ∧ Below w.heap.size w w' := by
  have HA := Lib.hid ha
  have HB := Lib.hid hb
  have HP := Lib.hid hp
  have HQ := Lib.hid hq
  have HS := Lib.hid hs
  have HT := Lib.hid ht
  have sz1 : s.arr.size = 39 := StV.arr_size hs.regs hs.csrs
  have sz2 : t.arr.size = 39 := StV.arr_size ht.regs ht.csrs
  clear ha hb hp hq hs ht
  go_enter Try.func8, Try.ntmps8
  go_upto_region 1 with (fail)
  obtain ⟨W, hW⟩ : ∃ W, W = (w.alloc (.cells s.arr 32)).alloc (.cells t.arr 32) := ⟨_, rfl⟩
  have l1 : W.rangeAt w.heap.size 0 s.arr.toList := by rw [hW]; exact row_range (heap_old (Go.heap_alloc_last _ _) _)
  have l2 : W.rangeAt (w.heap.size + 1) 0 t.arr.toList := by rw [hW]; exact row_range (by simpa using Go.heap_alloc_last (w.alloc (.cells s.arr 32)) (.cells t.arr 32))
  have zW : w.heap.size + 2 ≤ W.heap.size := by rw [hW]; simp
  have bW : Below w.heap.size w W := by rw [hW]; exact ((Below.refl _ _).alloc (Nat.le_refl _) _).alloc (by simp) _
  rw [← hW]
  clear hW
  refine wp_region_near [] (by kernel_rfl) (by kernel_rfl) ?_
  have U : ∀ x : Near [] W, Upd [] w x.1 := fun x => (Upd.of_below bW).trans x.2
  repeat (go_big_quiet_step ((first
    | exact Calls.near (First_calls A B l m c1 c2 _ (HA.out.of_upd (U _)) (HB.out.of_upd (U _)) (by omega) (by omega))
    | exact Calls.near (first_calls A B l m c1 c2 _ (HA.out.of_upd (U _)) (HB.out.of_upd (U _)) hl hm)
    | exact Calls.near (Prefix_calls P Q p q c3 c4 _ (HP.out.of_upd (U _)) (HQ.out.of_upd (U _)) hpl hqc)
    | exact Calls.near (RefPrefix_calls P Q p q c3 c4 _ (HP.out.of_upd (U _)) (HQ.out.of_upd (U _)) hpl))))
  refine Q_load 32 (.tmp 10) rfl (by kernel_rfl) _ _ rfl s.arr (by rintro _ ⟨x, rfl⟩; exact rangeAt_upd l1 (by omega) x.2) Try.underlying32 rfl 39 info_state sz1 ?_
  go_simp
  repeat (go_big_quiet_step (fail))
  refine Q_load 32 (.tmp 11) rfl (by kernel_rfl) _ _ rfl t.arr (by rintro _ ⟨x, rfl⟩; exact rangeAt_upd l2 (by omega) x.2) Try.underlying32 rfl 39 info_state sz2 ?_
  go_simp
  repeat (go_big_quiet_step ((first
    | exact Calls.near (States_calls s t _ (HS.out.of_upd (U _)) (HT.out.of_upd (U _))))))
  refine Q_load 32 (.tmp 10) rfl (by kernel_rfl) _ _ rfl s.arr (by rintro _ ⟨x, rfl⟩; exact rangeAt_upd l1 (by omega) x.2) Try.underlying32 rfl 39 info_state sz1 ?_
  go_simp
  repeat (go_big_quiet_step (fail))
  refine Q_load 32 (.tmp 11) rfl (by kernel_rfl) _ _ rfl t.arr (by rintro _ ⟨x, rfl⟩; exact rangeAt_upd l2 (by omega) x.2) Try.underlying32 rfl 39 info_state sz2 ?_
  go_simp
  repeat (go_big_quiet_step ((first
    | exact Calls.near (RefStates_calls s t _ (HS.out.of_upd (U _)) (HT.out.of_upd (U _))))))
  refine wpQuiet_nil ?_
  intro x
  go_wp2
  go_ret
  exact ⟨rfl, bW.trans (x.2.below.mono bW.size)⟩
end Go.Proofs.Ytgdmmhedcklkaaa
