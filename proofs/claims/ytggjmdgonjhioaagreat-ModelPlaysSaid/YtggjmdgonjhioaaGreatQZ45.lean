/- A plain machine: what it tells of itself. -/
import Derived.Test.YtggjmdgonjhioaaGreatQZ33
import Derived.Test.YtggjmdgonjhioaaGreatQZ44
import Derived.Lib.SliceRun
import Derived.WalkMore
namespace Go.Proofs.YtggjmdgonjhioaaGreat
open Go.RowKit Go.Dio
set_option linter.unusedSimpArgs false
set_option linter.unusedVariables false

theorem clone_calls (A : Option Addr) (l : List Nat) (n c : Nat) (w : World) (hn : n = l.length) (h : NumsAt w .u32 A l) (hl : n ≤ 5000) :
    Calls Tryz.prog 41 #[.slice A n c] w fun e w' => ∃ B cap, e = .returned (.slice B n cap) ∧ NumsAt w' .u32 B l ∧ Upd [] w w' ∧ (∀ a, B = some a → w.heap.size ≤ a.block) ∧ n ≤ cap ∧ cap ≤ 9223372036854775807 := by
  have HQ := Lib.hid h
  have HL := Lib.hid hn
  clear h hn
  go_enter Tryz.func41, Tryz.ntmps41
  have q35 : ∀ (w : World) (a : Option Addr) (n c n' c' : Nat), (binOp .eql 23 (.slice a n c) (.slice none n' c')).run Tryz.prog w = .ok (.bool a.isNone) w := fun w a n c n' c' => Lib.run_eql_slice_nil w _ _ a n c n' c' Tryz.underlying23
  cases A with
  | none =>
    go_wp2_with (fail)
    have h0 : n = 0 := by
      rcases Nat.eq_zero_or_pos n with h0 | h0
      · exact h0
      · obtain ⟨b, o, hA, _⟩ := HQ.out (by rw [← HL.out]; exact h0)
        cases hA
    have e0 : l = [] := List.eq_nil_of_length_eq_zero (by rw [← HL.out, h0])
    subst e0 h0
    go_ret
    exact ⟨none, 0, rfl, numsAt_nil _ _ _, Upd.refl _ _, fun a ha => (by cases ha), by simp, by omega⟩
  | some a =>
    go_wp2_with (first
      | go_skip
      | ((with_reducible refine at_op 7 ?_); refine L_append _ (.tmp 5) (.tmp 6) 23 rfl (by kernel_rfl) w.heap.size 36 _ 1 4 Tryz.underlying23 info_w32k rfl (by omega) (.slice (some ⟨w.heap.size, 0, none⟩) 0 0) 0 [] rfl (World.ownsRow_lit _ #[] 0 (Nat.le_refl _) (by simp [maxLen]) rfl) (some a) n c (vals .u32 l) rfl (by rw [vals_length, Nat.mul_one]; exact HL.out.symm) (srcAt_nums (HQ.out.of_upd ((Upd.refl [] w).alloc _))) (vals_one _ _) (by simp only [maxLen]; omega) (by omega) (by simp) ?_))
    intro v' w' own g1 at1
    obtain ⟨B, cap, rfl, hn, hc1, hc2, hu, hbk⟩ := nums_of_own own
    have HB := Lib.hid hbk
    have HC := Lib.hid (And.intro hc1 hc2)
    have hu' := Lib.hid hu
    have U := Lib.hid (((Upd.refl [] w).alloc (.cells #[] 36)).grown g1 (fun g hg hlt => by
      simp [Value.ownBlock] at hg; omega))
    clear own hu hc1 hc2 hbk
    rw [← HL.out] at HC ⊢
    go_wp2_with (fail)
    go_ret
    exact ⟨B, cap, rfl, hu'.out, U.out, HB.out, HC.out.1, HC.out.2⟩

theorem numsAt_keep {w w' : World} {S : List Nat} {k : IntKind} {A : Option Addr} {l : List Nat} (h : NumsAt w k A l) (hu : Upd S w w') (hS : ∀ a, A = some a → a.block ∉ S) : NumsAt w' k A l := fun h0 => by
  obtain ⟨b, o, hA, hb, hc⟩ := h h0
  exact ⟨b, o, hA, Nat.lt_of_lt_of_le hb hu.size, fun i hi => by rw [← hc i hi]; exact World.cell?_of_block (w := w) (hu.block b hb (hS _ hA))⟩
def stL (s : MSt) (v : Value) : List Value := .int .u32 (s.pc : Int) :: (vals .u32 s.regs ++ (vals .u32 s.csrs ++ [v]))
theorem stL_len (s : MSt) (v : Value) (hr : s.regs.length = 32) (hc : s.csrs.length = 5) : (stL s v).length = 39 := by simp [stL, vals_length, hr, hc]
theorem stL_one (s : MSt) (A : Option Addr) (n c : Nat) : ((stL s (.slice A n c)).toArray.all fun x => x.oneCell') = true := by simp [stL, vals, Value.oneCell']
theorem stL_get (s : MSt) (v : Value) (hr : s.regs.length = 32) (hc : s.csrs.length = 5) : (stL s v)[38]? = some v := by
  rw [stL, show 38 = (32 + (5 + 0)) + 1 by omega, List.getElem?_cons_succ, List.getElem?_append_right (by rw [vals_length]; omega), vals_length, hr, show 32 + (5 + 0) - 32 = 5 + 0 by omega,
    List.getElem?_append_right (by rw [vals_length]; omega), vals_length, hc]
  rfl
theorem stL_set (s : MSt) (v v' : Value) (hr : s.regs.length = 32) (hc : s.csrs.length = 5) : (stL s v).set 38 v' = stL s v' := by
  rw [stL, show 38 = (32 + (5 + 0)) + 1 by omega, List.set_cons_succ, List.set_append_right _ _ (by rw [vals_length]; omega), vals_length, hr, show 32 + (5 + 0) - 32 = 5 + 0 by omega,
    List.set_append_right _ _ (by rw [vals_length]; omega), vals_length, hc]
  rfl
theorem mcells_stL (s : MSt) (gb : Nat) (tv : Value) : mcells s gb tv = stL s (.slice (some ⟨gb, 0, none⟩) 1024 1024) ++ [tv, .bool s.halted, .int .u32 (s.code : Int), .int .i64 (s.steps : Int)] := by
  simp [mcells, stL]
theorem st_range {mb gb base : Nat} {tv : Value} {s : MSt} {w : World} (h : MachAt mb gb base tv s w) : w.rangeAt mb 0 (stL s (.slice (some ⟨gb, 0, none⟩) 1024 1024)) := fun j v hv => by
  rw [cells_of h.cell, Nat.zero_add, List.getElem?_toArray, mcells_stL, List.getElem?_append_left (List.getElem?_eq_some_iff.1 hv).1]
  exact hv
theorem row_all {w : World} {g : Nat} {l : List Value} {t : TypeId} (h : w.heap[g]? = some (.cells l.toArray t (0, 0))) : w.rangeAt g 0 l := fun j v hv => by
  rw [cells_of h, Nat.zero_add, List.getElem?_toArray]; exact hv

set_option maxRecDepth 20000 in
set_option maxHeartbeats 4000000 in
theorem state_calls (mb gb base : Nat) (tv : Value) (s : MSt) (zz : World) (M : MachAt mb gb base tv s zz) (ok : MOk s) :
    Calls Tryz.prog 27 #[.pointer (some ⟨mb, 0, none⟩)] zz fun e z' => ∃ B cap, e = .returned (.agg (StV.arr ⟨s.pc, s.regs, s.csrs, B, s.mem, cap⟩)) ∧ StV.OK ⟨s.pc, s.regs, s.csrs, B, s.mem, cap⟩ z' ∧ Upd [] zz z' := by
  obtain ⟨LR, hLR⟩ : ∃ LR, LR = stL s (.slice (some ⟨gb, 0, none⟩) 1024 1024) := ⟨_, rfl⟩
  have HS : LR.toArray.size = 39 := by rw [hLR, List.size_toArray, stL_len s _ ok.regs ok.csrs]
  have HSL : LR.length = 39 := by rw [hLR, stL_len s _ ok.regs ok.csrs]
  have H1 : (LR.toArray.all fun x => x.oneCell') = true := by rw [hLR]; exact stL_one s _ _ _
  have RNG : Hid (∀ w, Upd [] zz w → w.rangeAt mb 0 LR.toArray.toList) := Lib.hid (fun w u => by rw [hLR]; exact st_range (M.upd0 u))
  have hL38 : LR[38]? = some (.slice (some ⟨gb, 0, none⟩) 1024 1024) := by rw [hLR, stL_get s _ ok.regs ok.csrs]
  have HSET : Hid (∀ v, LR.set 38 v = stL s v) := Lib.hid (fun v => by rw [hLR, stL_set s _ _ ok.regs ok.csrs])
  have HN : Hid (NumsAt zz .u32 (some ⟨gb, 0, none⟩) s.mem) := Lib.hid (fun _ => ⟨gb, 0, rfl, lt_of_block M.mem, fun i hi => by rw [Nat.zero_add, cells_of M.mem]; exact nums_nth .u32 s.mem i hi⟩)
  have HML := Lib.hid ok.mem
  have HRC := Lib.hid (And.intro ok.regs ok.csrs)
  have HSN : Hid (∀ v, (stL s v).length = 39) := Lib.hid (fun v => stL_len s v ok.regs ok.csrs)
  have B0 := Lib.hid (hl2 zz (.cells (stL ⟨0, List.replicate 32 0, List.replicate 5 0, [], [], false, 0, 0⟩ (.slice none 0 0)).toArray 60) (.cells (stL ⟨0, List.replicate 32 0, List.replicate 5 0, [], [], false, 0, 0⟩ (.slice none 0 0)).toArray 60))
  have R0 := Lib.hid (heap_old (hl1 zz (.cells (stL ⟨0, List.replicate 32 0, List.replicate 5 0, [], [], false, 0, 0⟩ (.slice none 0 0)).toArray 60)) (.cells (stL ⟨0, List.replicate 32 0, List.replicate 5 0, [], [], false, 0, 0⟩ (.slice none 0 0)).toArray 60))
  have U0 := Lib.hid (((Upd.refl [] zz).alloc (.cells (stL ⟨0, List.replicate 32 0, List.replicate 5 0, [], [], false, 0, 0⟩ (.slice none 0 0)).toArray 60)).alloc (.cells (stL ⟨0, List.replicate 32 0, List.replicate 5 0, [], [], false, 0, 0⟩ (.slice none 0 0)).toArray 60))
  clear hLR M ok
  go_enter Tryz.func27, Tryz.ntmps27
  go_wp2_with (first
    | go_skip
    | ((with_reducible refine at_op 7 ?_); refine L_load 60 (.tmp 6) rfl (by kernel_rfl) _ _ rfl LR.toArray (RNG.out _ ((Upd.refl [] zz).alloc _)) Tryz.underlying60 rfl 39 info_state HS ?_)
    | ((with_reducible refine at_st 3 ?_); refine L_store_row 60 (.tmp 3) (.tmp 7) rfl (by kernel_rfl) (zz.heap.size + 1) 0 rfl _ 60 B0.out LR.toArray rfl 39 info_state HS (by decide) H1 ?_))
  intro w1 b1 u1 s1
  rw [spl_all (by rw [HSL]; rfl)] at b1
  have B1' := Lib.hid b1
  have R1' := Lib.hid (u1.keep R0.out (by simp))
  have U1' := Lib.hid (U0.out.then u1 (fun x hx hlt => by simp at hx; omega))
  have hs1 : zz.heap.size + 1 < w1.heap.size := lt_of_block b1
  have c38' : w1.cell? ⟨zz.heap.size + 1, 38, none⟩ = some (.slice (some ⟨gb, 0, none⟩) 1024 1024) := by rw [cells_of b1, List.getElem?_toArray]; exact hL38
  clear b1 u1 s1 B0 R0 U0
  go_wp2_with (fail)
  refine (clone_calls (some ⟨gb, 0, none⟩) s.mem 1024 1024 _ HML.out.symm (HN.out.of_upd U1'.out) (by omega)).mono ?_
  rintro e z1 ⟨B, cap, rfl, n1, u1, hbk, hcp⟩
  have N1 := Lib.hid n1
  have HBK := Lib.hid hbk
  have HCP := Lib.hid hcp
  have U1 := Lib.hid (U1'.out.trans u1)
  have B1 := Lib.hid (u1.keep B1'.out (by simp))
  have R1 := Lib.hid (u1.keep R1'.out (by simp))
  clear n1 u1 B1' R1' U1' hbk hcp c38'
  have c38 : z1.cell? ⟨zz.heap.size + 1, 38, none⟩ = some (.slice (some ⟨gb, 0, none⟩) 1024 1024) := by rw [cells_of B1.out, List.getElem?_toArray]; exact hL38
  have f38 : z1.frozen? ⟨zz.heap.size + 1, 38, none⟩ = false := free_of B1.out 38
  obtain ⟨L2, hL2⟩ : ∃ L2, L2 = stL s (.slice B 1024 cap) := ⟨_, rfl⟩
  have V2 : Hid (Upd [zz.heap.size + 1] z1 (z1.setCell ⟨zz.heap.size + 1, 38, none⟩ (.slice B 1024 cap))) := Lib.hid ((Upd.refl _ _).setCell (p := ⟨zz.heap.size + 1, 38, none⟩) (by simp) _)
  have B2 : Hid ((z1.setCell ⟨zz.heap.size + 1, 38, none⟩ (.slice B 1024 cap)).heap[zz.heap.size + 1]? = some (.cells L2.toArray 60 (0, 0))) := Lib.hid (by
    rw [heap_setCell_eq B1.out, hL2, ← HSET.out]; simp)
  have R2 := Lib.hid (V2.out.keep R1.out (by simp))
  have HS2 : L2.toArray.size = 39 := by rw [hL2, List.size_toArray, HSN.out]
  have HSL2 : L2.length = 39 := by rw [hL2, HSN.out]
  have H12 : (L2.toArray.all fun x => x.oneCell') = true := by rw [hL2]; exact stL_one s _ _ _
  have HL2 := Lib.hid hL2
  clear hL2
  go_wp2_with (first
    | go_skip
    | ((with_reducible refine at_op 12 ?_); refine L_load 60 (.tmp 3) rfl (by kernel_rfl) _ _ rfl L2.toArray (row_all B2.out) Tryz.underlying60 rfl 39 info_state HS2 ?_)
    | ((with_reducible refine at_st 2 ?_); refine L_store_row 60 (.tmp 2) (.tmp 12) rfl (by kernel_rfl) zz.heap.size 0 rfl _ 60 R2.out L2.toArray rfl 39 info_state HS2 (by decide) H12 ?_))
  intro wA bA uA zA
  rw [spl_all (by rw [HSL2]; rfl)] at bA
  go_wp2_with (fail)
  refine bodyPost_ret (results_cell_row rfl _ _ zz.heap.size 60 L2.toArray _ _ rfl bA Tryz.underlying60 rfl (by rw [HS2]; exact info_state)) rfl ⟨B, cap, ?_, ⟨HRC.out.1, HRC.out.2, ?_, by show s.mem.length ≤ cap; rw [HML.out]; exact HCP.out.1, HCP.out.2⟩, ?_⟩
  · rw [HL2.out]
    show Ending.returned (.agg (stL s (.slice B 1024 cap)).toArray) = .returned (.agg (stL s (.slice B s.mem.length cap)).toArray)
    rw [HML.out]
  · have hf : ∀ a, B = some a → a.block ≠ zz.heap.size ∧ a.block ≠ zz.heap.size + 1 := fun a ha => by
      have := HBK.out a ha
      omega
    exact numsAt_keep (numsAt_keep N1.out V2.out (fun a ha => by have := hf a ha; simp; omega)) uA (fun a ha => by have := hf a ha; simp; omega)
  · exact (U1.out.then V2.out (fun x hx hlt => by simp at hx; omega)).then uA (fun x hx hlt => by simp at hx; omega)
set_option maxHeartbeats 1000000 in
theorem trace_calls (mb gb base : Nat) (tv : Value) (s : MSt) (zz : World) (M : MachAt mb gb base tv s zz) (ok : MOk s) (ht : s.trace.length ≤ 5000) :
    Calls Tryz.prog 25 #[.pointer (some ⟨mb, 0, none⟩)] zz fun e z' => ∃ B cap, e = .returned (.slice B s.trace.length cap) ∧ NumsAt z' .u32 B s.trace ∧ Upd [] zz z' ∧ s.trace.length ≤ cap ∧ cap ≤ 9223372036854775807 := by
  have c39 : zz.cell? ⟨mb, 39, none⟩ = some tv := by rw [M.cAt 39, mc_tail s gb tv 1 ok.regs ok.csrs]; rfl
  obtain ⟨A, c, rfl, _, _, hN, _⟩ := M.own.words
  obtain ⟨n, hn⟩ : ∃ n, n = s.trace.length := ⟨_, rfl⟩
  rw [← hn] at c39 ht ⊢
  have HN := Lib.hid hN
  have HL := Lib.hid hn
  clear hN M hn
  go_enter Tryz.func25, Tryz.ntmps25
  go_wp2_with (fail)
  refine (clone_calls A s.trace n c zz HL.out HN.out ht).mono ?_
  rintro e z1 ⟨B, cap, rfl, n1, u1, _, hcp⟩
  have N1 := Lib.hid n1
  have U1 := Lib.hid u1
  have HCP := Lib.hid hcp
  clear n1 u1 hcp
  go_wp2_with (fail)
  go_ret
  exact ⟨B, cap, rfl, N1.out, U1.out, HCP.out⟩
set_option maxHeartbeats 1000000 in
theorem steps_calls (mb gb base : Nat) (tv : Value) (s : MSt) (zz : World) (M : MachAt mb gb base tv s zz) (ok : MOk s) :
    Calls Tryz.prog 26 #[.pointer (some ⟨mb, 0, none⟩)] zz fun e z' => e = .returned (.int .i64 (s.steps : Int)) ∧ z' = zz := by
  have c42 : zz.cell? ⟨mb, 42, none⟩ = some (.int .i64 (s.steps : Int)) := by rw [M.cAt 42, mc_tail s gb tv 4 ok.regs ok.csrs]; rfl
  clear M
  go_enter Tryz.func26, Tryz.ntmps26
  go_wp2_with (fail)
  go_ret
  exact ⟨rfl, rfl⟩
set_option maxHeartbeats 1000000 in
theorem halted_calls (mb gb base : Nat) (tv : Value) (s : MSt) (zz : World) (M : MachAt mb gb base tv s zz) (ok : MOk s) :
    Calls Tryz.prog 24 #[.pointer (some ⟨mb, 0, none⟩)] zz fun e z' => e = .returned (.tuple #[.int .u32 (s.code : Int), .bool s.halted]) ∧ Upd [] zz z' := by
  have n40 : ∀ x : Near [] zz, x.1.cell? ⟨mb, 40, none⟩ = some (.bool s.halted) := fun x => by rw [(M.upd0 x.2).cAt 40, mc_tail s gb tv 2 ok.regs ok.csrs]; rfl
  have n41 : ∀ x : Near [] zz, x.1.cell? ⟨mb, 41, none⟩ = some (.int .u32 (s.code : Int)) := fun x => by rw [(M.upd0 x.2).cAt 41, mc_tail s gb tv 3 ok.regs ok.csrs]; rfl
  clear M
  go_enter Tryz.func24, Tryz.ntmps24
  go_wp2_with (fail)
  refine wp_region_plan (fun z => ∃ x : Near [] zz, z = x.1) [] [0, 1, 2, 3, 4, 5, 6, 7, 8, 9] (by kernel_rfl) (by kernel_rfl) (by kernel_rfl) (by kernel_rfl) (fun _ d _ _ _ h => by cases d <;> exact h) ⟨⟨(zz).drew, (Upd.refl _ _).drew⟩, rfl⟩ ?_
  refine plan_last ?_
  simp only [opsAt, List.map_cons, List.map_nil, List.getElem?_toArray, List.getElem?_cons_zero, List.getElem?_cons_succ, Option.getD_some]
  repeat (go_big_quiet_step (fail))
  refine wpQuiet_nil ?_
  unfold planEnd
  go_wp2_with fail
  go_ret2
  exact ⟨rfl, (Upd.refl _ _).drew⟩
end Go.Proofs.YtggjmdgonjhioaaGreat

namespace Go.Proofs.YtggjmdgonjhioaaGreat
open Go.RowKit Go.Dio
set_option linter.unusedSimpArgs false
set_option linter.unusedVariables false

def itS (s : MSt) : Nat → MSt
  | 0 => s
  | k + 1 => stepP (itS s k)
theorem itS_inv {s : MSt} (h : MInv s) : ∀ k, MInv (itS s k)
  | 0 => h
  | k + 1 => step_inv (itS_inv h k)
theorem stS_grow (s : MSt) (A d : Nat) (m : Int) : (stS s A d m).trace.length ≤ s.trace.length + 1 ∧ (stS s A d m).steps = s.steps := by
  unfold stS
  split
  · simp
  · split <;> simp
theorem step_grow {s : MSt} (h : MInv s) : (stepP s).trace.length ≤ s.trace.length + 1 ∧ (stepP s).steps ≤ s.steps + 1 ∧ (s.halted = false → (stepP s).steps = s.steps + 1) := by
  by_cases hh : s.halted = true
  · unfold stepP; rw [if_pos hh]; exact ⟨by omega, by omega, fun h => by rw [hh] at h; cases h⟩
  · have hf : s.halted = false := by cases h0 : s.halted; rfl; exact absurd h0 hh
    rw [stepP_eq s h hf]
    split
    · have := stS_grow (regS s) (madeP s).r.addr.toNat (madeP s).r.data.toNat (madeP s).r.mask
      have e1 : (regS s).trace = s.trace := rfl
      have e2 : (regS s).steps = s.steps + 1 := rfl
      rw [e1, e2] at this
      exact ⟨this.1, by omega, fun _ => this.2⟩
    · exact ⟨by show s.trace.length ≤ _; omega, by show s.steps + 1 ≤ _; omega, fun _ => rfl⟩
theorem itS_grow {s : MSt} (h : MInv s) (k : Nat) : (itS s k).trace.length ≤ s.trace.length + k ∧ (itS s k).steps ≤ s.steps + k := by
  induction k with
  | zero => exact ⟨by simp [itS], by simp [itS]⟩
  | succ k ih =>
    have := step_grow (itS_inv h k)
    exact ⟨by show (stepP (itS s k)).trace.length ≤ _; omega, by show (stepP (itS s k)).steps ≤ _; omega⟩
theorem step_calls (mb gb base : Nat) (tv : Value) (s : MSt) (zz : World) (M : MachAt mb gb base tv s zz) (iv : MInv s) (hb : base ≤ zz.heap.size) (ht : s.trace.length ≤ 4000) (hsn : s.steps ≤ 1000000) :
    Calls Tryz.prog 12 #[.pointer (some ⟨mb, 0, none⟩)] zz fun e z' => e = .returned (.tuple #[.agg (retL (retP s)).toArray, .bool (!s.halted)]) ∧ StR mb gb base tv (stepP s) zz z' := by
  cases hh : s.halted with
  | true =>
    refine (step_halted mb gb base tv s zz M iv.ok hh).mono ?_
    rintro e z' ⟨rfl, u⟩
    have e1 : retP s = ⟨0, 0, 0, false, 0, 0, 0⟩ := by unfold retP; rw [if_pos hh]
    have e2 : stepP s = s := by unfold stepP; rw [if_pos hh]
    rw [e1, e2]
    exact ⟨rfl, tv, M.upd0 u, u.mono (fun x hx _ => by simp at hx), fun g hg => .inl hg⟩
  | false =>
    refine (step_runs mb gb base tv s zz M iv hh hb ht hsn).mono ?_
    rintro e z' ⟨rfl, u⟩
    have e1 : retP s = (madeP s).r := by unfold retP; rw [if_neg (by rw [hh]; decide)]
    rw [e1]
    exact ⟨rfl, u⟩
theorem StR.refl {mb gb base : Nat} {tv : Value} {s : MSt} {w : World} (h : MachAt mb gb base tv s w) : StR mb gb base tv s w w := ⟨tv, h, Upd.refl _ _, fun g hg => .inl hg⟩
theorem StR.after {mb gb base : Nat} {tv tv1 : Value} {s' : MSt} {w w1 w2 : World} (u1 : Upd (mb :: gb :: tv.ownBlock.toList) w w1) (o1 : ∀ g, tv1.ownBlock = some g → tv.ownBlock = some g ∨ w.heap.size ≤ g) (h2 : StR mb gb base tv1 s' w1 w2) : StR mb gb base tv s' w w2 := by
  obtain ⟨tv2, m2, u2, o2⟩ := h2
  refine ⟨tv2, m2, u1.then u2 (fun x hx hlt => ?_), fun g hg => ?_⟩
  · simp only [List.mem_cons, Option.mem_toList] at hx ⊢
    rcases hx with h | h | h
    · exact .inl h
    · exact .inr (.inl h)
    · rcases o1 x h with h3 | h3
      · exact .inr (.inr h3)
      · omega
  · rcases o2 g hg with h3 | h3
    · exact o1 g h3
    · exact .inr (Nat.le_trans u1.size h3)
theorem StR.upd0 {mb gb base : Nat} {tv : Value} {s : MSt} {w w1 w2 : World} (h : StR mb gb base tv s w w1) (u : Upd [] w1 w2) : StR mb gb base tv s w w2 := by
  obtain ⟨tv1, m1, u1, o1⟩ := h
  exact ⟨tv1, m1.upd0 u, u1.then u (fun x hx _ => by cases hx), o1⟩
theorem itS_stay {s : MSt} {k : Nat} (h : (itS s k).halted = true) : itS s (k + 1) = itS s k := by
  show stepP (itS s k) = _
  unfold stepP
  rw [if_pos h]
set_option maxRecDepth 20000 in
set_option maxHeartbeats 4000000 in
theorem run_calls (mb gb base : Nat) (tv : Value) (s : MSt) (zz : World) (M : MachAt mb gb base tv s zz) (iv : MInv s) (n : Nat) (hb : base ≤ zz.heap.size) (ht : s.trace.length + n ≤ 4000) (hsn : s.steps + n ≤ 1000000) :
    Calls Tryz.prog 23 #[.pointer (some ⟨mb, 0, none⟩), .int .i64 (n : Int)] zz fun e z' => ∃ k : Nat, e = .returned (.int .i64 (k : Int)) ∧ k ≤ n ∧ (∀ j, j < k → (itS s j).halted = false) ∧ (k = n ∨ (itS s k).halted = true) ∧ StR mb gb base tv (itS s k) zz z' := by
  have M0 := Lib.hid M
  clear M
  go_enter Tryz.func23, Tryz.ntmps23
  go_wp2_with (fail)
  go_step3
  go_wp2_with (fail)
  go_step3
  go_wp2_with (fail)
  go_loopw [5] (fun v5 wl => ∃ k : Nat, v5 = .int .i64 (k : Int) ∧ k ≤ n ∧ Hid (∀ j, j < k → (itS s j).halted = false) ∧ Hid (StR mb gb base tv (itS s k) zz wl)) (fun v5 _ => n - (intOf v5).toNat)
  case atStart => exact ⟨0, rfl, by omega, Lib.hid (fun j hj => by omega), Lib.hid (StR.refl M0.out)⟩
  case round =>
    obtain ⟨k, rfl, hk, HB, HX⟩ := hrel
    rcases Nat.lt_or_ge k n with hlt | hge
    · obtain ⟨tvk, Mk, Uk, Ok⟩ := HX.out
      have hg := itS_grow iv k
      have hcall := Lib.hid (step_calls mb gb base tvk (itS s k) wr Mk (itS_inv iv k) (Nat.le_trans hb Uk.size) (by omega) (by omega))
      obtain ⟨R, hR⟩ : ∃ R, R = retP (itS s k) := ⟨_, rfl⟩
      obtain ⟨H, hH⟩ : ∃ H, H = (itS s k).halted := ⟨_, rfl⟩
      rw [← hR, ← hH] at hcall
      have HH := Lib.hid hH.symm
      have hd : decide ((k : Int) < (n : Int)) = true := decide_eq_true (by omega)
      have KD : Hid (∀ z1, StR mb gb base tvk (stepP (itS s k)) wr z1 → StR mb gb base tv (itS s (k + 1)) zz z1) := Lib.hid (fun z1 h => StR.after Uk Ok h)
      clear hR hH Mk Uk Ok hg
      cases H
      · go_wp2_with (fail)
        refine hcall.out.mono ?_
        rintro e z1 ⟨rfl, hst⟩
        have HS := Lib.hid (KD.out z1 hst)
        clear hst KD hcall
        go_wp2_with (first
          | go_skip
          | ((with_reducible refine at_st 6 ?_); refine L_store_new 38 (.tmp 6) (.tmp 14) rfl (by kernel_rfl) _ (retL R).toArray rfl rfl 7 info_ret rfl rfl (retL_one _) ?_))
        go_roundw
        case measure => simp [intOf]; omega
        case rel => exact ⟨k + 1, by go_num, by omega, Lib.hid (fun j hj => by
          rcases Nat.lt_or_ge j k with h | h
          · exact HB.out j h
          · obtain rfl : j = k := by omega
            exact HH.out), Lib.hid (HS.out.upd0 ((Upd.refl [] _).alloc _))⟩
      · go_wp2_with (fail)
        refine hcall.out.mono ?_
        rintro e z1 ⟨rfl, hst⟩
        have HS := Lib.hid (KD.out z1 hst)
        clear hst KD hcall
        go_wp2_with (first
          | go_skip
          | ((with_reducible refine at_st 6 ?_); refine L_store_new 38 (.tmp 6) (.tmp 14) rfl (by kernel_rfl) _ (retL R).toArray rfl rfl 7 info_ret rfl rfl (retL_one _) ?_))
        try rw [Exit.noGoto_ret]
        go_ret
        have hs := HS.out
        rw [itS_stay HH.out] at hs
        exact ⟨k, rfl, hk, HB.out, .inr HH.out, hs.upd0 ((Upd.refl [] _).alloc _)⟩
    · obtain rfl : k = n := by omega
      have hd : decide ((k : Int) < (k : Int)) = false := decide_eq_false (by omega)
      go_wp2_with (fail)
      try rw [Exit.noGoto_ret]
      go_ret
      exact ⟨k, rfl, hk, HB.out, .inl rfl, HX.out⟩
end Go.Proofs.YtggjmdgonjhioaaGreat

namespace Go.Proofs.YtggjmdgonjhioaaGreat
open Go.RowKit Go.Dio
set_option linter.unusedSimpArgs false
set_option linter.unusedVariables false

theorem itS_steps {s : MSt} (iv : MInv s) : ∀ k, (∀ j, j < k → (itS s j).halted = false) → (itS s k).steps = s.steps + k
  | 0, _ => rfl
  | k + 1, h => by
    show (stepP (itS s k)).steps = _
    rw [(step_grow (itS_inv iv k)).2.2 (h k (by omega)), itS_steps iv k (fun j hj => h j (by omega))]
    omega
theorem retP_run {s : MSt} (hh : s.halted = false) : retP s = (madeP s).r := by unfold retP; rw [if_neg (by rw [hh]; decide)]
/-- What a step tells of itself. -/
structure RetOk (s : MSt) (v d : Nat) (st : Bool) (A dt : Nat) (mk : Int) : Prop where
  eq : retP s = ⟨(s.pc : Int), (v : Int), (d : Int), st, (A : Int), (dt : Int), mk⟩
  lt : d < 32
  vlt : v < 2 ^ 32
  zero : d = 0 → v = 0
  al : A % 4 = 0
  alt : A < 2 ^ 32
  dlt : dt < 2 ^ 32
  same : d = 0 → (stepP s).regs = s.regs
  tell : st = false → (stepP s).trace = s.trace
  sz : st = true → d = 0
theorem ret_ok {s : MSt} (iv : MInv s) (hh : s.halted = false) : ∃ v d st A dt mk, RetOk s v d st A dt mk := by
  have e := retP_run hh
  have g := (made_good iv).1
  have hs := stepP_eq s iv hh
  obtain ⟨X, hX⟩ : ∃ X, madeP s = X := ⟨_, rfl⟩
  have hr : (regS s).regs = if X.r.rd = 0 then s.regs else s.regs.set X.r.rd.toNat X.r.val.toNat := by unfold regS; rw [hX]
  rw [hX] at e g hs
  obtain ⟨⟨rpc, rv, rrd, rst, ra, rda, rm⟩, nx, cs⟩ := X
  obtain ⟨g1, ⟨n, g2, hn⟩, ⟨k, g3, hk⟩, g4, g5, g6⟩ := g
  dsimp only at g1 g2 g3 g4 g5 g6 e hs hr
  subst g1 g2 g3
  cases rst with
  | true =>
    obtain ⟨h0, A, d, ea, ed, hd, h4, hA⟩ := g5 rfl
    subst ea ed
    have hn0 : n = 0 := by have := g4 h0; omega
    refine ⟨n, k, true, A, d, rm, e, hk, hn, fun _ => hn0, h4, by omega, hd, fun _ => ?_, fun h => (by cases h), fun _ => by omega⟩
    rw [hs, if_pos rfl]
    have e2 : (stS (regS s) (A : Int).toNat (d : Int).toNat rm).regs = (regS s).regs := by
      unfold stS; split; rfl; split; rfl; rfl
    rw [e2, hr, if_pos h0]
  | false =>
    obtain ⟨ea, ed, em⟩ := g6 rfl
    subst ea ed
    refine ⟨n, k, false, 0, 0, rm, e, hk, hn, fun h => by have := g4 (by omega); omega, by decide, by decide, by decide, fun h => ?_, fun _ => ?_, fun h => by cases h⟩
    · rw [hs, if_neg (by decide), hr, if_pos (by omega)]
    · rw [hs, if_neg (by decide)]; rfl
end Go.Proofs.YtggjmdgonjhioaaGreat
