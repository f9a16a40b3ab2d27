/- The document's checkpoints, in memory: NewSave, Scrub. -/
import Derived.Test.YthoaofbhppdfoaaDoorRSv
namespace Go.Proofs.YthoaofbhppdfoaaDoor
open Go.RowKit Go.Dio
set_option linter.unusedSimpArgs false
set_option linter.unusedVariables false

set_option maxRecDepth 20000 in
set_option maxHeartbeats 1000000 in
/-- The document's Scrub. -/
theorem RSScrub_calls (sb b d : Nat) (l : List Nat) (f a : Nat) (w : World) (h : RHoldAt sb b d l f a w) (ha : a < 79) (hf : f < 9223372036854775806) :
    Calls Tryd.prog 12 #[.pointer (some ⟨sb, 0, none⟩)] w fun e w' => e = .returned (.int .i64 ((peekL l (a : Int)).2 : Int)) ∧ RHoldAt sb b d (getL l (a : Int)) (f + getF l (a : Int)) ((a + 1) % 79) w' ∧ Upd [sb, b, d] w w' := by
  have H := Lib.hid h
  have hnb := h.nb
  have hnd := h.nd
  clear h
  go_enter Tryd.func12, Tryd.ntmps12
  go_wp2_with (fail)
  have n0 : ∀ z : Near [b, d] w, z.1.cell? ⟨sb, 0, none⟩ = some (.pointer (some ⟨b, 0, none⟩)) := fun z => by rw [cells_of (z.2.keep H.out.cell (by simp; omega))]; rfl
  have n1 : ∀ z : Near [b, d] w, z.1.cell? ⟨sb, 1, none⟩ = some (.int .i64 (a : Int)) := fun z => by rw [cells_of (z.2.keep H.out.cell (by simp; omega))]; rfl
  refine wp_region_plan (fun z => ∃ x : Near [b, d] w, z = x.1) [([0, 1, 2, 3, 4, 5, 6, 7], 8)] [9, 10, 11, 12, 13] (by kernel_rfl) (by kernel_rfl) (by kernel_rfl) (by kernel_rfl) (fun _ d _ _ _ h => by cases d <;> exact h) ⟨⟨(w).drew, (Upd.refl _ _).drew⟩, rfl⟩ ?_
  refine plan_next ?_
  simp only [opsAt, List.map_cons, List.map_nil, List.getElem?_toArray, List.getElem?_cons_zero, List.getElem?_cons_succ, Option.getD_some]
  repeat (go_big_quiet_step (fail))
  refine wpQuiet_nil ?_
  refine plan_one rfl ?_
  go_wp2_with fail
  refine (RGet_calls _ b d l f (a : Int) _ (H.out.row.upd0 (Upd.refl _ _).drew) hf).mono ?_
  rintro e w1 ⟨rfl, r, u⟩
  have H1 := Lib.hid ((H.out.upd0 (Upd.refl _ _).drew).step r u (by simp))
  have U1 := Lib.hid ((Upd.refl [b, d] w).drew.trans u)
  clear r u
  have c1 : w1.cell? ⟨sb, 1, none⟩ = some (.int .i64 (a : Int)) := by rw [cells_of H1.out.cell]; rfl
  have f1 : w1.frozen? ⟨sb, 1, none⟩ = false := free_of H1.out.cell 1
  go_wp2_with (fail)
  refine plan_same ⟨⟨_, U1.out⟩, rfl⟩ ?_
  refine plan_last ?_
  simp only [opsAt, List.map_cons, List.map_nil, List.getElem?_toArray, List.getElem?_cons_zero, List.getElem?_cons_succ, Option.getD_some]
  repeat (go_big_quiet_step (fail))
  refine wpQuiet_nil ?_
  unfold planEnd
  go_wp2_with fail
  go_ret
  refine ⟨rfl, ?_, ?_⟩
  · have em : ((a : Int) + 1) % 79 = (((a + 1) % 79 : Nat) : Int) := by omega
    have := H1.out.next ((a + 1) % 79)
    rw [← em] at this
    exact this
  · exact (U1.out.mono (fun x hx _ => by simp at hx ⊢; omega)).setCell (p := ⟨sb, 1, none⟩) (by simp) _

theorem rnew_eq : puts (puts (List.replicate 79 0) (39 * 0) (List.replicate 38 0 ++ [markP (nth (List.replicate 38 0) 37)]) 39) (39 * 1) (List.replicate 38 0 ++ [markP (nth (List.replicate 38 0) 37)]) 39 = newS := by decide +kernel
set_option maxRecDepth 20000 in
set_option maxHeartbeats 1000000 in
/-- The document's NewSave. -/
theorem RSNew_calls (w : World) (hT : Tz w) :
    Calls Tryd.prog 8 #[] w fun e w' => ∃ sb, e = .returned (.pointer (some ⟨sb, 0, none⟩)) ∧ w.heap.size + 2 ≤ sb ∧ RHoldAt sb (w.heap.size + 1) w.heap.size newS 0 0 w' ∧ Upd [] w w' := by
  have N := Lib.hid (RNew_calls 79 79 w hT (by decide))
  have hz0 := hT.lt
  have HRN := Lib.hid rnew_eq
  obtain ⟨i0, hi, hz0', hz1, hz2⟩ := info_parts infoS_w32
  have hmk : ∀ u : World, (Instr.makeSlice 51 (.int .i64 38) (.int .i64 38)).run Tryd.prog u =
      .ok (.slice (some ⟨u.heap.size, 0, none⟩) 38 38) (u.alloc (.cells (nums .u32 (List.replicate 38 0)) 26)) := fun u => by
    have h := run_make (P := Tryd.prog) u 51 26 i0 (.int .u32 0) Tryd.underlying51 hi hz0' .i64 .i64 38 38 (by omega) (Int.le_refl _) (by rw [hz2]; decide) (by decide)
    have e : (38 : Int).toNat = 38 := rfl
    rw [e] at h
    rw [← madeS_w32]
    simpa [hz1, Value.cells] using h
  have hz38 : (List.replicate 38 0).length = 38 := rfl
  have hl38 : ∀ i, nth (List.replicate 38 0) i < 2 ^ 32 := fun i => nth_lt (by decide) (by decide) i
  generalize List.replicate 38 0 = Z at hmk HRN hz38 hl38
  have MK := Lib.hid hmk
  clear hmk hi hz0' hz1 hz2 hT
  go_enter Tryd.func8, Tryd.ntmps8
  go_wp2_with (fail)
  refine N.out.mono ?_
  rintro e w1 ⟨rfl, r, u⟩
  have R1 := Lib.hid r
  have U1 := Lib.hid u
  clear r u N
  have hbl := R1.out.blt
  have hdl := R1.out.dlt
  go_upto_region 2 with (fail)
  generalize hmb : w1.heap.size = mb
  have H0 : Hid (RHoldAt mb (w.heap.size + 1) w.heap.size (List.replicate 79 0) 0 0 (w1.alloc (.cells #[.pointer (some ⟨w.heap.size + 1, 0, none⟩), .int .i64 0] 42))) := by
    refine Lib.hid ⟨?_, R1.out.upd0 ((Upd.refl _ _).alloc _), by omega, by omega, by omega⟩
    rw [← hmb]; exact Go.heap_alloc_last w1 _
  have U2 := Lib.hid (U1.out.alloc (.cells #[.pointer (some ⟨w.heap.size + 1, 0, none⟩), .int .i64 0] 42))
  have hms : mb < (w1.alloc (.cells #[.pointer (some ⟨w.heap.size + 1, 0, none⟩), .int .i64 0] 42)).heap.size := by simp; omega
  generalize w1.alloc (.cells #[.pointer (some ⟨w.heap.size + 1, 0, none⟩), .int .i64 0] 42) = w2 at H0 U2 hms ⊢
  have HMB := Lib.hid (show w.heap.size + 2 ≤ mb by omega)
  have HMS := Lib.hid hms
  have HDL := Lib.hid (show w.heap.size < w2.heap.size by omega)
  clear hmb hms R1 U1 hbl hdl hz0
  generalize hdd : w.heap.size = dd at H0 HMB HDL ⊢
  have HDD := Lib.hid hdd
  clear hdd
  have hmk := MK.out
  go_wp2_with (fail)
  have zz : SlAt (w2.alloc (.cells (nums .u32 Z) 26)) w2.heap.size Z := ⟨by simp, fun i hi => by
    have hb := Go.heap_alloc_last w2 (.cells (nums .u32 Z) 26)
    rw [cells_of hb]; exact nums_nth .u32 Z i hi⟩
  refine (rput_calls mb (dd + 1) dd _ 0 0 0 Z w2.heap.size 38 _ (H0.out.upd0 ((Upd.refl _ _).alloc _)) (by decide) zz hz38 hl38 (by have := H0.out.row.dlt; omega)).mono ?_
  rintro e w3 ⟨rfl, h', u⟩
  have H3 := Lib.hid h'
  have V3 := Lib.hid (((Upd.refl [dd] w2).alloc _).trans u)
  have U3 := Lib.hid ((U2.out.alloc (.cells (nums .u32 Z) 26)).then u (fun x hx hlt => by have := HDD.out; simp at hx; omega))
  clear h' u zz hmk
  have HDL3 := Lib.hid (show dd < w3.heap.size by have := HDL.out; have := V3.out.size; omega)
  have hmk := MK.out
  go_wp2_with (fail)
  have zz : SlAt (w3.alloc (.cells (nums .u32 Z) 26)) w3.heap.size Z := ⟨by simp, fun i hi => by
    have hb := Go.heap_alloc_last w3 (.cells (nums .u32 Z) 26)
    rw [cells_of hb]; exact nums_nth .u32 Z i hi⟩
  refine (rput_calls mb (dd + 1) dd _ 0 0 1 Z w3.heap.size 38 _ (H3.out.upd0 ((Upd.refl _ _).alloc _)) (by decide) zz hz38 hl38 (by have := H3.out.row.dlt; omega)).mono ?_
  rintro e w4 ⟨rfl, h', u⟩
  have H4 := Lib.hid h'
  have V3 := Lib.hid (((Upd.refl [dd] w3).alloc _).trans u)
  have U4 := Lib.hid ((U3.out.alloc (.cells (nums .u32 Z) 26)).then u (fun x hx hlt => by have := HDD.out; simp at hx; omega))
  clear h' u zz hmk
  go_wp2_with (fail)
  go_ret
  have hdd := HDD.out
  subst hdd
  refine ⟨mb, rfl, HMB.out, ?_, U4.out⟩
  have := H4.out
  rw [HRN.out] at this
  exact this
end Go.Proofs.YthoaofbhppdfoaaDoor
