/- One instruction: what is decoded is in bounds; where a load goes: the code's. -/
import Derived.Test.YtmdjhahafjlebaaGreatDoorQD30
import Derived.Test.YtmdjhahafjlebaaGreatDoorQD21
namespace Go.Proofs.YtmdjhahafjlebaaGreatDoor
open Go.RowKit Go.Dio
set_option linter.unusedSimpArgs false
set_option linter.unusedVariables false

def WfI (i : InstV) : Prop := i.op ≤ 55 ∧ i.rd < 32 ∧ i.r1 < 32 ∧ i.r2 < 32 ∧ -2147483648 ≤ i.imm ∧ i.imm ≤ 2147483647
theorem WfI.no : WfI noI := by unfold WfI noI; decide
theorem WfI.mk2 {o rd r1 r2 : Nat} {imm : Int} (ho : o ≤ 55) (hd : rd < 32) (h1 : r1 < 32) (h2 : r2 < 32) (hi : -2147483648 ≤ imm ∧ imm ≤ 2147483647) : WfI (withI o ⟨0, rd, r1, r2, imm⟩) := by
  unfold withI
  split
  · exact WfI.no
  · exact ⟨ho, hd, h1, h2, hi⟩
theorem nthLe {l : List Nat} {B : Nat} (h : ∀ x ∈ l, x ≤ B) (k : Nat) : nth l k ≤ B := by
  by_cases hk : k < l.length
  · rw [nth_eq l k hk]; exact h _ (List.getElem_mem hk)
  · rw [show nth l k = 0 by simp [nth, show l.length ≤ k by omega]]; exact Nat.zero_le _
theorem immI_in (w : Nat) : -2147483648 ≤ immI w ∧ immI w ≤ 2147483647 := sx_lo _ 12 (by decide) (by decide)
theorem immS_in (w : Nat) : -2147483648 ≤ immS w ∧ immS w ≤ 2147483647 := sx_lo _ 12 (by decide) (by decide)
theorem immB_in (w : Nat) : -2147483648 ≤ immB w ∧ immB w ≤ 2147483647 := sx_lo _ 13 (by decide) (by decide)
theorem immJ_in (w : Nat) : -2147483648 ≤ immJ w ∧ immJ w ≤ 2147483647 := sx_lo _ 21 (by decide) (by decide)
theorem immU_in (w : Nat) : -2147483648 ≤ immU w ∧ immU w ≤ 2147483647 := by
  unfold immU
  have h := fb_lt w 12 20
  have h2 : fb w 12 20 * 4096 < 2 ^ 32 := by
    have : fb w 12 20 * 4096 < 2 ^ 20 * 4096 := Nat.mul_lt_mul_of_pos_right h (by decide)
    exact Nat.lt_of_lt_of_le this (by decide)
  exact ⟨s32_lo _ h2, s32_hi _ h2⟩
theorem fb5 (w a : Nat) : fb w a 5 < 32 := fb_lt w a 5
theorem fb12_in (w : Nat) : (-2147483648 : Int) ≤ ((fb w 20 12 : Nat) : Int) ∧ ((fb w 20 12 : Nat) : Int) ≤ 2147483647 := by have := fb_lt w 20 12; omega
theorem wfm {op rd r1 r2 : Nat} {imm : Int} (h0 : op ≤ 55) (hd : rd < 32) (h1 : r1 < 32) (h2 : r2 < 32) (hi : -2147483648 ≤ imm ∧ imm ≤ 2147483647) : WfI ⟨op, rd, r1, r2, imm⟩ := ⟨h0, hd, h1, h2, hi⟩
set_option maxHeartbeats 1000000 in
theorem decodeP_wf (w : Nat) : WfI (decodeP w) := by
  have hd := fb5 w 7
  have h1 := fb5 w 15
  have h2 := fb5 w 20
  unfold decodeP
  generalize fb w 7 5 = rd at *
  generalize fb w 15 5 = r1 at *
  generalize fb w 20 5 = r2 at *
  generalize fb w 0 7 = code
  generalize fb w 12 3 = f3
  generalize fb w 25 7 = f7
  unfold codeP
  split
  · exact wfm (by decide) (hd) (by decide) (by decide) (immU_in w)
  split
  · exact wfm (by decide) (hd) (by decide) (by decide) (immU_in w)
  split
  · exact wfm (by decide) (hd) (by decide) (by decide) (immJ_in w)
  split
  · split
    · exact wfm (by decide) (hd) (h1) (by decide) (immI_in w)
    · exact WfI.no
  split
  · exact WfI.mk2 (nthLe (by decide) f3) (by decide) (h1) (h2) (immB_in w)
  split
  · exact WfI.mk2 (nthLe (by decide) f3) (hd) (h1) (by decide) (immI_in w)
  split
  · exact WfI.mk2 (nthLe (by decide) f3) (by decide) (h1) (h2) (immS_in w)
  split
  · unfold immP
    split
    · exact WfI.mk2 (nthLe (by decide) f3) (hd) (h1) (by decide) (immI_in w)
    split
    · exact wfm (by decide) (hd) (h1) (by decide) (by omega)
    split
    · exact wfm (by decide) (hd) (h1) (by decide) (by omega)
    split
    · exact wfm (by decide) (hd) (h1) (by decide) (by omega)
    exact WfI.no
  split
  · refine WfI.mk2 ?_ hd h1 h2 (by decide)
    unfold opR
    split
    · exact nthLe (by decide) f3
    split
    · exact nthLe (by decide) f3
    split
    · decide
    split
    · decide
    decide
  split
  · split
    · exact wfm (by decide) (by decide) (by decide) (by decide) (by decide)
    · exact WfI.no
  split
  · unfold sysP
    split
    · exact wfm (by decide) (by decide) (by decide) (by decide) (by decide)
    split
    · exact wfm (by decide) (by decide) (by decide) (by decide) (by decide)
    split
    · exact wfm (by decide) (by decide) (by decide) (by decide) (by decide)
    exact WfI.mk2 (nthLe (by decide) f3) (hd) (h1) (by decide) (fb12_in w)
  exact WfI.no
/-- Where a word is loaded, if one is. -/
def LdI (D : InstV) (a x : Nat) (d : Bool) : Prop :=
  (d = true → x = low2 (u32 ((a : Int) + D.imm)) ∧ 11 ≤ D.op ∧ D.op ≤ 15 ∧ (accessP D.op (u32 ((a : Int) + D.imm))).2 = false) ∧
  (d = false → D.op < 11 ∨ 15 < D.op ∨ (accessP D.op (u32 ((a : Int) + D.imm))).2 = true)
set_option maxRecDepth 20000 in
set_option maxHeartbeats 4000000 in
theorem loads_calls (w a : Nat) (hw : w < 2 ^ 32) (ha : a < 2 ^ 32) (zz : World) :
    Calls Tryz.prog 79 #[.int .u32 (w : Int), .int .u32 (a : Int)] zz fun e z' => ∃ (x : Nat) (d : Bool), e = .returned (.tuple #[.int .u32 (x : Int), .bool d]) ∧ LdI (decodeP w) a x d ∧ Upd [] zz z' := by
  have DC := Lib.hid (fun z => decode_calls w hw z)
  have hwf := decodeP_wf w
  generalize decodeP w = D at *
  obtain ⟨op, rd, r1, r2, imm⟩ := D
  obtain ⟨h55, _, _, _, hi1, hi2⟩ := hwf
  dsimp only at h55 hi1 hi2 ⊢
  have LF : ∀ x, (op < 11 ∨ 15 < op ∨ (accessP op (u32 ((a : Int) + imm))).2 = true) → LdI ⟨op, rd, r1, r2, imm⟩ a x false := fun x h => ⟨fun h2 => absurd h2 (by decide), fun _ => h⟩
  have LT : 11 ≤ op → op ≤ 15 → (accessP op (u32 ((a : Int) + imm))).2 = false → LdI ⟨op, rd, r1, r2, imm⟩ a (low2 (u32 ((a : Int) + imm))) true := fun h1 h2 h3 => ⟨fun _ => ⟨rfl, h1, h2, h3⟩, fun h => absurd h (by decide)⟩
  generalize hLd : LdI ⟨op, rd, r1, r2, imm⟩ a = LL at *
  clear hLd
  have v1 := wrap_u32 imm
  have v2 := addr_mod a imm
  have v3 := addr_wrap a imm
  have hal := u32_lt ((a : Int) + imm)
  generalize u32 ((a : Int) + imm) = ad at *
  generalize u32 imm = ui at *
  have X := Lib.hid (fun z => access_calls op ad z h55 hal)
  have wl := high2 ad hal
  have hl4 : low2 ad = ad / 4 * 4 := rfl
  rw [hl4] at LT
  clear hl4
  generalize ad / 4 * 4 = l at *
  have HF := Lib.hid LF
  have HT := Lib.hid LT
  clear LF LT
  generalize (accessP op ad).1 = cause at *
  generalize (accessP op ad).2 = bad at *
  show Calls _ _ #[_, _] _ _
  by_cases h0 : op = 0
  · subst h0
    go_enter Tryz.func79, Tryz.ntmps79
    go_wp2_with (fail)
    refine (DC.out _).mono ?_
    rintro e w1 ⟨rfl, u1⟩
    unfold InstV.arr
    go_wp2_with (fail)
    go_ret2
    exact ⟨0, false, rfl, HF.out 0 (.inl (by decide)), u1.alloc _⟩
  · have hne : decide (op ≠ 0) = true := decide_eq_true h0
    rw [hne] at DC
    clear hne
    by_cases h1 : op < 11
    · have d1 : decide ((op : Int) < 11) = true := decide_eq_true (by omega)
      go_enter Tryz.func79, Tryz.ntmps79
      go_wp2_with (fail)
      refine (DC.out _).mono ?_
      rintro e w1 ⟨rfl, u1⟩
      unfold InstV.arr
      go_wp2_with (fail)
      go_ret2
      exact ⟨0, false, rfl, HF.out 0 (.inl h1), u1.alloc _⟩
    · have d1 : decide ((op : Int) < 11) = false := decide_eq_false (by omega)
      by_cases h2 : 15 < op
      · have d2 : decide ((15 : Int) < (op : Int)) = true := decide_eq_true (by omega)
        go_enter Tryz.func79, Tryz.ntmps79
        go_wp2_with (fail)
        refine (DC.out _).mono ?_
        rintro e w1 ⟨rfl, u1⟩
        unfold InstV.arr
        go_wp2_with (fail)
        go_ret2
        exact ⟨0, false, rfl, HF.out 0 (.inr (.inl h2)), u1.alloc _⟩
      · have d2 : decide ((15 : Int) < (op : Int)) = false := decide_eq_false (by omega)
        go_enter Tryz.func79, Tryz.ntmps79
        go_wp2_with (fail)
        refine (DC.out _).mono ?_
        rintro e w1 ⟨rfl, u1⟩
        unfold InstV.arr
        go_wp2_with (first
          | (go_at_call 119; go_in)
          | go_back)
        refine (X.out _).mono ?_
        rintro e z1 ⟨rfl, rfl⟩
        have hlo : 11 ≤ op := by omega
        have hhi : op ≤ 15 := by omega
        cases bad
        · go_wp2_with (fail)
          go_ret2
          exact ⟨l, true, rfl, HT.out hlo hhi (by trivial), (u1.alloc _).alloc _⟩
        · go_wp2_with (fail)
          go_ret2
          exact ⟨l, false, rfl, HF.out l (.inr (.inr (by trivial))), (u1.alloc _).alloc _⟩
end Go.Proofs.YtmdjhahafjlebaaGreatDoor

namespace Go.Proofs.YtmdjhahafjlebaaGreatDoor
open Go.RowKit Go.Dio
set_option linter.unusedSimpArgs false
set_option linter.unusedVariables false

theorem within_calls (op rd r1 r2 : Nat) (imm : Int) (lo hi : Nat) (zz : World) :
    Calls Tryz.prog 118 #[.agg (InstV.mk op rd r1 r2 imm).arr, .int .i64 (lo : Int), .int .i64 (hi : Int)] zz fun e z' => e = .returned (.bool (decide (lo ≤ op ∧ op ≤ hi))) ∧ Upd [] zz z' := by
  show Calls _ _ #[.agg #[.int .i64 (op : Int), .int .i64 (rd : Int), .int .i64 (r1 : Int), .int .i64 (r2 : Int), .int .i32 imm], _, _] _ _
  by_cases h1 : lo ≤ op
  · have d1 : decide ((lo : Int) ≤ (op : Int)) = true := decide_eq_true (by omega)
    by_cases h2 : op ≤ hi
    · have d2 : decide ((op : Int) ≤ (hi : Int)) = true := decide_eq_true (by omega)
      rw [decide_eq_true (show lo ≤ op ∧ op ≤ hi from ⟨h1, h2⟩)]
      go_enter Tryz.func118, Tryz.ntmps118
      go_wp2_with (fail)
      go_ret
      exact ⟨rfl, (Upd.refl _ _).alloc _⟩
    · have d2 : decide ((op : Int) ≤ (hi : Int)) = false := decide_eq_false (by omega)
      rw [decide_eq_false (show ¬ (lo ≤ op ∧ op ≤ hi) from fun h => h2 h.2)]
      go_enter Tryz.func118, Tryz.ntmps118
      go_wp2_with (fail)
      go_ret
      exact ⟨rfl, (Upd.refl _ _).alloc _⟩
  · have d1 : decide ((lo : Int) ≤ (op : Int)) = false := decide_eq_false (by omega)
    rw [decide_eq_false (show ¬ (lo ≤ op ∧ op ≤ hi) from fun h => h1 h.1)]
    go_enter Tryz.func118, Tryz.ntmps118
    go_wp2_with (fail)
    go_ret
    exact ⟨rfl, (Upd.refl _ _).alloc _⟩
set_option maxHeartbeats 1000000 in
theorem slow_calls (i : InstV) (zz : World) :
    Calls Tryz.prog 75 #[.agg i.arr] zz fun e z' => e = .returned (.int .i64 (slowP i : Int)) ∧ Upd [] zz z' := by
  obtain ⟨op, rd, r1, r2, imm⟩ := i
  unfold slowP
  dsimp only
  by_cases h1 : 38 ≤ op ∧ op ≤ 41
  · rw [if_pos h1]
    go_enter Tryz.func75, Tryz.ntmps75
    go_upto_region 1 with (fail)
    generalize hW : World.alloc zz _ = z0
    have B : Hid (∀ w, Upd [] z0 w → w.heap[zz.heap.size]? = some (.cells (InstV.mk op rd r1 r2 imm).arr 69 (0, 0))) := Lib.hid (fun w u => u.keep (by rw [← hW]; exact Go.heap_alloc_last zz _) (by simp))
    have U0 : Hid (Upd [] zz z0) := Lib.hid (by rw [← hW]; exact (Upd.refl _ _).alloc _)
    have U : Hid (Upd [] z0 z0) := Lib.hid (Upd.refl _ _)
    clear hW
    have W0 : Hid (∀ w, Calls Tryz.prog 118 #[.agg (InstV.mk op rd r1 r2 imm).arr, .int .i64 38, .int .i64 41] w fun e z' => e = .returned (.bool true) ∧ Upd [] w z') := Lib.hid (fun w => by
      have h := within_calls op rd r1 r2 imm 38 41 w
      first
        | rw [decide_eq_true (show 38 ≤ op ∧ op ≤ 41 by omega)] at h
        | rw [decide_eq_false (show ¬ (38 ≤ op ∧ op ≤ 41) by omega)] at h
      exact h)
    go_wp2_with (first
      | go_skip
      | ((with_reducible refine at_op 4 ?_); refine L_load 69 (.tmp 1) rfl (by kernel_rfl) _ _ rfl (InstV.mk op rd r1 r2 imm).arr (row_arr (B.out _ U.out)) Tryz.underlying69 rfl 5 info_inst rfl ?_))
    refine (W0.out _).mono ?_
    rintro e w' ⟨rfl, u⟩
    replace U := Lib.hid (U.out.trans u)
    clear u W0
    have c0 : w'.cell? ⟨zz.heap.size, 0, none⟩ = some (.int .i64 (op : Int)) := by rw [cells_of (B.out _ U.out)]; rfl
    go_wp2_with (fail)
    go_ret
    exact ⟨rfl, U0.out.trans U.out⟩
  · rw [if_neg h1]
    by_cases h2 : 42 ≤ op ∧ op ≤ 45
    · rw [if_pos h2]
      go_enter Tryz.func75, Tryz.ntmps75
      go_upto_region 1 with (fail)
      generalize hW : World.alloc zz _ = z0
      have B : Hid (∀ w, Upd [] z0 w → w.heap[zz.heap.size]? = some (.cells (InstV.mk op rd r1 r2 imm).arr 69 (0, 0))) := Lib.hid (fun w u => u.keep (by rw [← hW]; exact Go.heap_alloc_last zz _) (by simp))
      have U0 : Hid (Upd [] zz z0) := Lib.hid (by rw [← hW]; exact (Upd.refl _ _).alloc _)
      have U : Hid (Upd [] z0 z0) := Lib.hid (Upd.refl _ _)
      clear hW
      have W0 : Hid (∀ w, Calls Tryz.prog 118 #[.agg (InstV.mk op rd r1 r2 imm).arr, .int .i64 38, .int .i64 41] w fun e z' => e = .returned (.bool false) ∧ Upd [] w z') := Lib.hid (fun w => by
        have h := within_calls op rd r1 r2 imm 38 41 w
        first
          | rw [decide_eq_true (show 38 ≤ op ∧ op ≤ 41 by omega)] at h
          | rw [decide_eq_false (show ¬ (38 ≤ op ∧ op ≤ 41) by omega)] at h
        exact h)
      go_wp2_with (first
        | go_skip
        | ((with_reducible refine at_op 4 ?_); refine L_load 69 (.tmp 1) rfl (by kernel_rfl) _ _ rfl (InstV.mk op rd r1 r2 imm).arr (row_arr (B.out _ U.out)) Tryz.underlying69 rfl 5 info_inst rfl ?_))
      refine (W0.out _).mono ?_
      rintro e w' ⟨rfl, u⟩
      replace U := Lib.hid (U.out.trans u)
      clear u W0
      have c0 : w'.cell? ⟨zz.heap.size, 0, none⟩ = some (.int .i64 (op : Int)) := by rw [cells_of (B.out _ U.out)]; rfl
      have W0 : Hid (∀ w, Calls Tryz.prog 118 #[.agg (InstV.mk op rd r1 r2 imm).arr, .int .i64 42, .int .i64 45] w fun e z' => e = .returned (.bool true) ∧ Upd [] w z') := Lib.hid (fun w => by
        have h := within_calls op rd r1 r2 imm 42 45 w
        first
          | rw [decide_eq_true (show 42 ≤ op ∧ op ≤ 45 by omega)] at h
          | rw [decide_eq_false (show ¬ (42 ≤ op ∧ op ≤ 45) by omega)] at h
        exact h)
      go_wp2_with (first
        | go_skip
        | ((with_reducible refine at_op 7 ?_); refine L_load 69 (.tmp 1) rfl (by kernel_rfl) _ _ rfl (InstV.mk op rd r1 r2 imm).arr (row_arr (B.out _ U.out)) Tryz.underlying69 rfl 5 info_inst rfl ?_))
      refine (W0.out _).mono ?_
      rintro e w' ⟨rfl, u⟩
      replace U := Lib.hid (U.out.trans u)
      clear u W0
      have c0 : w'.cell? ⟨zz.heap.size, 0, none⟩ = some (.int .i64 (op : Int)) := by rw [cells_of (B.out _ U.out)]; rfl
      go_wp2_with (fail)
      go_ret
      exact ⟨rfl, U0.out.trans U.out⟩
    · rw [if_neg h2]
      go_enter Tryz.func75, Tryz.ntmps75
      go_upto_region 1 with (fail)
      generalize hW : World.alloc zz _ = z0
      have B : Hid (∀ w, Upd [] z0 w → w.heap[zz.heap.size]? = some (.cells (InstV.mk op rd r1 r2 imm).arr 69 (0, 0))) := Lib.hid (fun w u => u.keep (by rw [← hW]; exact Go.heap_alloc_last zz _) (by simp))
      have U0 : Hid (Upd [] zz z0) := Lib.hid (by rw [← hW]; exact (Upd.refl _ _).alloc _)
      have U : Hid (Upd [] z0 z0) := Lib.hid (Upd.refl _ _)
      clear hW
      have W0 : Hid (∀ w, Calls Tryz.prog 118 #[.agg (InstV.mk op rd r1 r2 imm).arr, .int .i64 38, .int .i64 41] w fun e z' => e = .returned (.bool false) ∧ Upd [] w z') := Lib.hid (fun w => by
        have h := within_calls op rd r1 r2 imm 38 41 w
        first
          | rw [decide_eq_true (show 38 ≤ op ∧ op ≤ 41 by omega)] at h
          | rw [decide_eq_false (show ¬ (38 ≤ op ∧ op ≤ 41) by omega)] at h
        exact h)
      go_wp2_with (first
        | go_skip
        | ((with_reducible refine at_op 4 ?_); refine L_load 69 (.tmp 1) rfl (by kernel_rfl) _ _ rfl (InstV.mk op rd r1 r2 imm).arr (row_arr (B.out _ U.out)) Tryz.underlying69 rfl 5 info_inst rfl ?_))
      refine (W0.out _).mono ?_
      rintro e w' ⟨rfl, u⟩
      replace U := Lib.hid (U.out.trans u)
      clear u W0
      have c0 : w'.cell? ⟨zz.heap.size, 0, none⟩ = some (.int .i64 (op : Int)) := by rw [cells_of (B.out _ U.out)]; rfl
      have W0 : Hid (∀ w, Calls Tryz.prog 118 #[.agg (InstV.mk op rd r1 r2 imm).arr, .int .i64 42, .int .i64 45] w fun e z' => e = .returned (.bool false) ∧ Upd [] w z') := Lib.hid (fun w => by
        have h := within_calls op rd r1 r2 imm 42 45 w
        first
          | rw [decide_eq_true (show 42 ≤ op ∧ op ≤ 45 by omega)] at h
          | rw [decide_eq_false (show ¬ (42 ≤ op ∧ op ≤ 45) by omega)] at h
        exact h)
      go_wp2_with (first
        | go_skip
        | ((with_reducible refine at_op 7 ?_); refine L_load 69 (.tmp 1) rfl (by kernel_rfl) _ _ rfl (InstV.mk op rd r1 r2 imm).arr (row_arr (B.out _ U.out)) Tryz.underlying69 rfl 5 info_inst rfl ?_))
      refine (W0.out _).mono ?_
      rintro e w' ⟨rfl, u⟩
      replace U := Lib.hid (U.out.trans u)
      clear u W0
      have c0 : w'.cell? ⟨zz.heap.size, 0, none⟩ = some (.int .i64 (op : Int)) := by rw [cells_of (B.out _ U.out)]; rfl
      go_wp2_with (fail)
      go_ret
      exact ⟨rfl, U0.out.trans U.out⟩
set_option maxRecDepth 20000 in
set_option maxHeartbeats 16000000 in
theorem reads_calls (i : InstV) (zz : World) :
    Calls Tryz.prog 77 #[.agg i.arr] zz fun e z' => e = .returned (.tuple #[.bool (readsP i).1, .bool (readsP i).2]) ∧ Upd [] zz z' := by
  obtain ⟨op, rd, r1, r2, imm⟩ := i
  by_cases h1 : 5 ≤ op ∧ op ≤ 10
  ·
    have HR : Hid (readsP ⟨op, rd, r1, r2, imm⟩ = (true, true)) := Lib.hid (by unfold readsP; dsimp only; rw [Prod.mk.injEq]; refine ⟨?_, ?_⟩ <;> simp <;> omega)
    go_enter Tryz.func77, Tryz.ntmps77
    go_upto_region 1 with (fail)
    generalize hW : World.alloc zz _ = z0
    have B : Hid (∀ w, Upd [] z0 w → w.heap[zz.heap.size]? = some (.cells (InstV.mk op rd r1 r2 imm).arr 69 (0, 0))) := Lib.hid (fun w u => u.keep (by rw [← hW]; exact Go.heap_alloc_last zz _) (by simp))
    have U0 : Hid (Upd [] zz z0) := Lib.hid (by rw [← hW]; exact (Upd.refl _ _).alloc _)
    have U : Hid (Upd [] z0 z0) := Lib.hid (Upd.refl _ _)
    clear hW
    have W0 : Hid (∀ w, Calls Tryz.prog 118 #[.agg (InstV.mk op rd r1 r2 imm).arr, .int .i64 5, .int .i64 10] w fun e z' => e = .returned (.bool true) ∧ Upd [] w z') := Lib.hid (fun w => by
      have h := within_calls op rd r1 r2 imm 5 10 w
      first
        | rw [decide_eq_true (show 5 ≤ op ∧ op ≤ 10 by omega)] at h
        | rw [decide_eq_false (show ¬ (5 ≤ op ∧ op ≤ 10) by omega)] at h
      exact h)
    go_wp2_with (first
      | go_skip
      | ((with_reducible refine at_op 6 ?_); refine L_load 69 (.tmp 1) rfl (by kernel_rfl) _ _ rfl (InstV.mk op rd r1 r2 imm).arr (row_arr (B.out _ U.out)) Tryz.underlying69 rfl 5 info_inst rfl ?_))
    refine (W0.out _).mono ?_
    rintro e w' ⟨rfl, u⟩
    replace U := Lib.hid (U.out.trans u)
    clear u W0
    have c0 : w'.cell? ⟨zz.heap.size, 0, none⟩ = some (.int .i64 (op : Int)) := by rw [cells_of (B.out _ U.out)]; rfl
    go_wp2_with (fail)
    go_ret2
    exact ⟨by rw [HR.out]; rfl, U0.out.trans U.out⟩
  by_cases h2 : 16 ≤ op ∧ op ≤ 18
  ·
    have HR : Hid (readsP ⟨op, rd, r1, r2, imm⟩ = (true, true)) := Lib.hid (by unfold readsP; dsimp only; rw [Prod.mk.injEq]; refine ⟨?_, ?_⟩ <;> simp <;> omega)
    go_enter Tryz.func77, Tryz.ntmps77
    go_upto_region 1 with (fail)
    generalize hW : World.alloc zz _ = z0
    have B : Hid (∀ w, Upd [] z0 w → w.heap[zz.heap.size]? = some (.cells (InstV.mk op rd r1 r2 imm).arr 69 (0, 0))) := Lib.hid (fun w u => u.keep (by rw [← hW]; exact Go.heap_alloc_last zz _) (by simp))
    have U0 : Hid (Upd [] zz z0) := Lib.hid (by rw [← hW]; exact (Upd.refl _ _).alloc _)
    have U : Hid (Upd [] z0 z0) := Lib.hid (Upd.refl _ _)
    clear hW
    have W0 : Hid (∀ w, Calls Tryz.prog 118 #[.agg (InstV.mk op rd r1 r2 imm).arr, .int .i64 5, .int .i64 10] w fun e z' => e = .returned (.bool false) ∧ Upd [] w z') := Lib.hid (fun w => by
      have h := within_calls op rd r1 r2 imm 5 10 w
      first
        | rw [decide_eq_true (show 5 ≤ op ∧ op ≤ 10 by omega)] at h
        | rw [decide_eq_false (show ¬ (5 ≤ op ∧ op ≤ 10) by omega)] at h
      exact h)
    go_wp2_with (first
      | go_skip
      | ((with_reducible refine at_op 6 ?_); refine L_load 69 (.tmp 1) rfl (by kernel_rfl) _ _ rfl (InstV.mk op rd r1 r2 imm).arr (row_arr (B.out _ U.out)) Tryz.underlying69 rfl 5 info_inst rfl ?_))
    refine (W0.out _).mono ?_
    rintro e w' ⟨rfl, u⟩
    replace U := Lib.hid (U.out.trans u)
    clear u W0
    have c0 : w'.cell? ⟨zz.heap.size, 0, none⟩ = some (.int .i64 (op : Int)) := by rw [cells_of (B.out _ U.out)]; rfl
    have W0 : Hid (∀ w, Calls Tryz.prog 118 #[.agg (InstV.mk op rd r1 r2 imm).arr, .int .i64 16, .int .i64 18] w fun e z' => e = .returned (.bool true) ∧ Upd [] w z') := Lib.hid (fun w => by
      have h := within_calls op rd r1 r2 imm 16 18 w
      first
        | rw [decide_eq_true (show 16 ≤ op ∧ op ≤ 18 by omega)] at h
        | rw [decide_eq_false (show ¬ (16 ≤ op ∧ op ≤ 18) by omega)] at h
      exact h)
    go_wp2_with (first
      | go_skip
      | ((with_reducible refine at_op 9 ?_); refine L_load 69 (.tmp 1) rfl (by kernel_rfl) _ _ rfl (InstV.mk op rd r1 r2 imm).arr (row_arr (B.out _ U.out)) Tryz.underlying69 rfl 5 info_inst rfl ?_))
    refine (W0.out _).mono ?_
    rintro e w' ⟨rfl, u⟩
    replace U := Lib.hid (U.out.trans u)
    clear u W0
    have c0 : w'.cell? ⟨zz.heap.size, 0, none⟩ = some (.int .i64 (op : Int)) := by rw [cells_of (B.out _ U.out)]; rfl
    go_wp2_with (fail)
    go_ret2
    exact ⟨by rw [HR.out]; rfl, U0.out.trans U.out⟩
  by_cases h3 : 28 ≤ op ∧ op ≤ 45
  ·
    have HR : Hid (readsP ⟨op, rd, r1, r2, imm⟩ = (true, true)) := Lib.hid (by unfold readsP; dsimp only; rw [Prod.mk.injEq]; refine ⟨?_, ?_⟩ <;> simp <;> omega)
    go_enter Tryz.func77, Tryz.ntmps77
    go_upto_region 1 with (fail)
    generalize hW : World.alloc zz _ = z0
    have B : Hid (∀ w, Upd [] z0 w → w.heap[zz.heap.size]? = some (.cells (InstV.mk op rd r1 r2 imm).arr 69 (0, 0))) := Lib.hid (fun w u => u.keep (by rw [← hW]; exact Go.heap_alloc_last zz _) (by simp))
    have U0 : Hid (Upd [] zz z0) := Lib.hid (by rw [← hW]; exact (Upd.refl _ _).alloc _)
    have U : Hid (Upd [] z0 z0) := Lib.hid (Upd.refl _ _)
    clear hW
    have W0 : Hid (∀ w, Calls Tryz.prog 118 #[.agg (InstV.mk op rd r1 r2 imm).arr, .int .i64 5, .int .i64 10] w fun e z' => e = .returned (.bool false) ∧ Upd [] w z') := Lib.hid (fun w => by
      have h := within_calls op rd r1 r2 imm 5 10 w
      first
        | rw [decide_eq_true (show 5 ≤ op ∧ op ≤ 10 by omega)] at h
        | rw [decide_eq_false (show ¬ (5 ≤ op ∧ op ≤ 10) by omega)] at h
      exact h)
    go_wp2_with (first
      | go_skip
      | ((with_reducible refine at_op 6 ?_); refine L_load 69 (.tmp 1) rfl (by kernel_rfl) _ _ rfl (InstV.mk op rd r1 r2 imm).arr (row_arr (B.out _ U.out)) Tryz.underlying69 rfl 5 info_inst rfl ?_))
    refine (W0.out _).mono ?_
    rintro e w' ⟨rfl, u⟩
    replace U := Lib.hid (U.out.trans u)
    clear u W0
    have c0 : w'.cell? ⟨zz.heap.size, 0, none⟩ = some (.int .i64 (op : Int)) := by rw [cells_of (B.out _ U.out)]; rfl
    have W0 : Hid (∀ w, Calls Tryz.prog 118 #[.agg (InstV.mk op rd r1 r2 imm).arr, .int .i64 16, .int .i64 18] w fun e z' => e = .returned (.bool false) ∧ Upd [] w z') := Lib.hid (fun w => by
      have h := within_calls op rd r1 r2 imm 16 18 w
      first
        | rw [decide_eq_true (show 16 ≤ op ∧ op ≤ 18 by omega)] at h
        | rw [decide_eq_false (show ¬ (16 ≤ op ∧ op ≤ 18) by omega)] at h
      exact h)
    go_wp2_with (first
      | go_skip
      | ((with_reducible refine at_op 9 ?_); refine L_load 69 (.tmp 1) rfl (by kernel_rfl) _ _ rfl (InstV.mk op rd r1 r2 imm).arr (row_arr (B.out _ U.out)) Tryz.underlying69 rfl 5 info_inst rfl ?_))
    refine (W0.out _).mono ?_
    rintro e w' ⟨rfl, u⟩
    replace U := Lib.hid (U.out.trans u)
    clear u W0
    have c0 : w'.cell? ⟨zz.heap.size, 0, none⟩ = some (.int .i64 (op : Int)) := by rw [cells_of (B.out _ U.out)]; rfl
    have W0 : Hid (∀ w, Calls Tryz.prog 118 #[.agg (InstV.mk op rd r1 r2 imm).arr, .int .i64 28, .int .i64 45] w fun e z' => e = .returned (.bool true) ∧ Upd [] w z') := Lib.hid (fun w => by
      have h := within_calls op rd r1 r2 imm 28 45 w
      first
        | rw [decide_eq_true (show 28 ≤ op ∧ op ≤ 45 by omega)] at h
        | rw [decide_eq_false (show ¬ (28 ≤ op ∧ op ≤ 45) by omega)] at h
      exact h)
    go_wp2_with (first
      | go_skip
      | ((with_reducible refine at_op 13 ?_); refine L_load 69 (.tmp 1) rfl (by kernel_rfl) _ _ rfl (InstV.mk op rd r1 r2 imm).arr (row_arr (B.out _ U.out)) Tryz.underlying69 rfl 5 info_inst rfl ?_))
    refine (W0.out _).mono ?_
    rintro e w' ⟨rfl, u⟩
    replace U := Lib.hid (U.out.trans u)
    clear u W0
    have c0 : w'.cell? ⟨zz.heap.size, 0, none⟩ = some (.int .i64 (op : Int)) := by rw [cells_of (B.out _ U.out)]; rfl
    go_wp2_with (fail)
    go_ret2
    exact ⟨by rw [HR.out]; rfl, U0.out.trans U.out⟩
  by_cases h4 : op = 4
  ·
    have HR : Hid (readsP ⟨op, rd, r1, r2, imm⟩ = (true, false)) := Lib.hid (by unfold readsP; dsimp only; rw [Prod.mk.injEq]; refine ⟨?_, ?_⟩ <;> simp <;> omega)
    have e4 : ((op : Int) == 4) = true := by rw [h4]; decide
    clear h4
    go_enter Tryz.func77, Tryz.ntmps77
    go_upto_region 1 with (fail)
    generalize hW : World.alloc zz _ = z0
    have B : Hid (∀ w, Upd [] z0 w → w.heap[zz.heap.size]? = some (.cells (InstV.mk op rd r1 r2 imm).arr 69 (0, 0))) := Lib.hid (fun w u => u.keep (by rw [← hW]; exact Go.heap_alloc_last zz _) (by simp))
    have U0 : Hid (Upd [] zz z0) := Lib.hid (by rw [← hW]; exact (Upd.refl _ _).alloc _)
    have U : Hid (Upd [] z0 z0) := Lib.hid (Upd.refl _ _)
    clear hW
    have W0 : Hid (∀ w, Calls Tryz.prog 118 #[.agg (InstV.mk op rd r1 r2 imm).arr, .int .i64 5, .int .i64 10] w fun e z' => e = .returned (.bool false) ∧ Upd [] w z') := Lib.hid (fun w => by
      have h := within_calls op rd r1 r2 imm 5 10 w
      first
        | rw [decide_eq_true (show 5 ≤ op ∧ op ≤ 10 by omega)] at h
        | rw [decide_eq_false (show ¬ (5 ≤ op ∧ op ≤ 10) by omega)] at h
      exact h)
    go_wp2_with (first
      | go_skip
      | ((with_reducible refine at_op 6 ?_); refine L_load 69 (.tmp 1) rfl (by kernel_rfl) _ _ rfl (InstV.mk op rd r1 r2 imm).arr (row_arr (B.out _ U.out)) Tryz.underlying69 rfl 5 info_inst rfl ?_))
    refine (W0.out _).mono ?_
    rintro e w' ⟨rfl, u⟩
    replace U := Lib.hid (U.out.trans u)
    clear u W0
    have c0 : w'.cell? ⟨zz.heap.size, 0, none⟩ = some (.int .i64 (op : Int)) := by rw [cells_of (B.out _ U.out)]; rfl
    have W0 : Hid (∀ w, Calls Tryz.prog 118 #[.agg (InstV.mk op rd r1 r2 imm).arr, .int .i64 16, .int .i64 18] w fun e z' => e = .returned (.bool false) ∧ Upd [] w z') := Lib.hid (fun w => by
      have h := within_calls op rd r1 r2 imm 16 18 w
      first
        | rw [decide_eq_true (show 16 ≤ op ∧ op ≤ 18 by omega)] at h
        | rw [decide_eq_false (show ¬ (16 ≤ op ∧ op ≤ 18) by omega)] at h
      exact h)
    go_wp2_with (first
      | go_skip
      | ((with_reducible refine at_op 9 ?_); refine L_load 69 (.tmp 1) rfl (by kernel_rfl) _ _ rfl (InstV.mk op rd r1 r2 imm).arr (row_arr (B.out _ U.out)) Tryz.underlying69 rfl 5 info_inst rfl ?_))
    refine (W0.out _).mono ?_
    rintro e w' ⟨rfl, u⟩
    replace U := Lib.hid (U.out.trans u)
    clear u W0
    have c0 : w'.cell? ⟨zz.heap.size, 0, none⟩ = some (.int .i64 (op : Int)) := by rw [cells_of (B.out _ U.out)]; rfl
    have W0 : Hid (∀ w, Calls Tryz.prog 118 #[.agg (InstV.mk op rd r1 r2 imm).arr, .int .i64 28, .int .i64 45] w fun e z' => e = .returned (.bool false) ∧ Upd [] w z') := Lib.hid (fun w => by
      have h := within_calls op rd r1 r2 imm 28 45 w
      first
        | rw [decide_eq_true (show 28 ≤ op ∧ op ≤ 45 by omega)] at h
        | rw [decide_eq_false (show ¬ (28 ≤ op ∧ op ≤ 45) by omega)] at h
      exact h)
    go_wp2_with (first
      | go_skip
      | ((with_reducible refine at_op 13 ?_); refine L_load 69 (.tmp 1) rfl (by kernel_rfl) _ _ rfl (InstV.mk op rd r1 r2 imm).arr (row_arr (B.out _ U.out)) Tryz.underlying69 rfl 5 info_inst rfl ?_))
    refine (W0.out _).mono ?_
    rintro e w' ⟨rfl, u⟩
    replace U := Lib.hid (U.out.trans u)
    clear u W0
    have c0 : w'.cell? ⟨zz.heap.size, 0, none⟩ = some (.int .i64 (op : Int)) := by rw [cells_of (B.out _ U.out)]; rfl
    go_wp2_with (fail)
    go_ret2
    exact ⟨by rw [HR.out]; rfl, U0.out.trans U.out⟩
  have e4 : ((op : Int) == 4) = false := by rw [beq_eq_false_iff_ne]; omega
  by_cases h5 : 11 ≤ op ∧ op ≤ 15
  ·
    have HR : Hid (readsP ⟨op, rd, r1, r2, imm⟩ = (true, false)) := Lib.hid (by unfold readsP; dsimp only; rw [Prod.mk.injEq]; refine ⟨?_, ?_⟩ <;> simp <;> omega)
    go_enter Tryz.func77, Tryz.ntmps77
    go_upto_region 1 with (fail)
    generalize hW : World.alloc zz _ = z0
    have B : Hid (∀ w, Upd [] z0 w → w.heap[zz.heap.size]? = some (.cells (InstV.mk op rd r1 r2 imm).arr 69 (0, 0))) := Lib.hid (fun w u => u.keep (by rw [← hW]; exact Go.heap_alloc_last zz _) (by simp))
    have U0 : Hid (Upd [] zz z0) := Lib.hid (by rw [← hW]; exact (Upd.refl _ _).alloc _)
    have U : Hid (Upd [] z0 z0) := Lib.hid (Upd.refl _ _)
    clear hW
    have W0 : Hid (∀ w, Calls Tryz.prog 118 #[.agg (InstV.mk op rd r1 r2 imm).arr, .int .i64 5, .int .i64 10] w fun e z' => e = .returned (.bool false) ∧ Upd [] w z') := Lib.hid (fun w => by
      have h := within_calls op rd r1 r2 imm 5 10 w
      first
        | rw [decide_eq_true (show 5 ≤ op ∧ op ≤ 10 by omega)] at h
        | rw [decide_eq_false (show ¬ (5 ≤ op ∧ op ≤ 10) by omega)] at h
      exact h)
    go_wp2_with (first
      | go_skip
      | ((with_reducible refine at_op 6 ?_); refine L_load 69 (.tmp 1) rfl (by kernel_rfl) _ _ rfl (InstV.mk op rd r1 r2 imm).arr (row_arr (B.out _ U.out)) Tryz.underlying69 rfl 5 info_inst rfl ?_))
    refine (W0.out _).mono ?_
    rintro e w' ⟨rfl, u⟩
    replace U := Lib.hid (U.out.trans u)
    clear u W0
    have c0 : w'.cell? ⟨zz.heap.size, 0, none⟩ = some (.int .i64 (op : Int)) := by rw [cells_of (B.out _ U.out)]; rfl
    have W0 : Hid (∀ w, Calls Tryz.prog 118 #[.agg (InstV.mk op rd r1 r2 imm).arr, .int .i64 16, .int .i64 18] w fun e z' => e = .returned (.bool false) ∧ Upd [] w z') := Lib.hid (fun w => by
      have h := within_calls op rd r1 r2 imm 16 18 w
      first
        | rw [decide_eq_true (show 16 ≤ op ∧ op ≤ 18 by omega)] at h
        | rw [decide_eq_false (show ¬ (16 ≤ op ∧ op ≤ 18) by omega)] at h
      exact h)
    go_wp2_with (first
      | go_skip
      | ((with_reducible refine at_op 9 ?_); refine L_load 69 (.tmp 1) rfl (by kernel_rfl) _ _ rfl (InstV.mk op rd r1 r2 imm).arr (row_arr (B.out _ U.out)) Tryz.underlying69 rfl 5 info_inst rfl ?_))
    refine (W0.out _).mono ?_
    rintro e w' ⟨rfl, u⟩
    replace U := Lib.hid (U.out.trans u)
    clear u W0
    have c0 : w'.cell? ⟨zz.heap.size, 0, none⟩ = some (.int .i64 (op : Int)) := by rw [cells_of (B.out _ U.out)]; rfl
    have W0 : Hid (∀ w, Calls Tryz.prog 118 #[.agg (InstV.mk op rd r1 r2 imm).arr, .int .i64 28, .int .i64 45] w fun e z' => e = .returned (.bool false) ∧ Upd [] w z') := Lib.hid (fun w => by
      have h := within_calls op rd r1 r2 imm 28 45 w
      first
        | rw [decide_eq_true (show 28 ≤ op ∧ op ≤ 45 by omega)] at h
        | rw [decide_eq_false (show ¬ (28 ≤ op ∧ op ≤ 45) by omega)] at h
      exact h)
    go_wp2_with (first
      | go_skip
      | ((with_reducible refine at_op 13 ?_); refine L_load 69 (.tmp 1) rfl (by kernel_rfl) _ _ rfl (InstV.mk op rd r1 r2 imm).arr (row_arr (B.out _ U.out)) Tryz.underlying69 rfl 5 info_inst rfl ?_))
    refine (W0.out _).mono ?_
    rintro e w' ⟨rfl, u⟩
    replace U := Lib.hid (U.out.trans u)
    clear u W0
    have c0 : w'.cell? ⟨zz.heap.size, 0, none⟩ = some (.int .i64 (op : Int)) := by rw [cells_of (B.out _ U.out)]; rfl
    have W0 : Hid (∀ w, Calls Tryz.prog 118 #[.agg (InstV.mk op rd r1 r2 imm).arr, .int .i64 11, .int .i64 15] w fun e z' => e = .returned (.bool true) ∧ Upd [] w z') := Lib.hid (fun w => by
      have h := within_calls op rd r1 r2 imm 11 15 w
      first
        | rw [decide_eq_true (show 11 ≤ op ∧ op ≤ 15 by omega)] at h
        | rw [decide_eq_false (show ¬ (11 ≤ op ∧ op ≤ 15) by omega)] at h
      exact h)
    go_wp2_with (first
      | go_skip
      | ((with_reducible refine at_op 23 ?_); refine L_load 69 (.tmp 1) rfl (by kernel_rfl) _ _ rfl (InstV.mk op rd r1 r2 imm).arr (row_arr (B.out _ U.out)) Tryz.underlying69 rfl 5 info_inst rfl ?_))
    refine (W0.out _).mono ?_
    rintro e w' ⟨rfl, u⟩
    replace U := Lib.hid (U.out.trans u)
    clear u W0
    have c0 : w'.cell? ⟨zz.heap.size, 0, none⟩ = some (.int .i64 (op : Int)) := by rw [cells_of (B.out _ U.out)]; rfl
    go_wp2_with (fail)
    go_ret2
    exact ⟨by rw [HR.out]; rfl, U0.out.trans U.out⟩
  by_cases h6 : 19 ≤ op ∧ op ≤ 27
  ·
    have HR : Hid (readsP ⟨op, rd, r1, r2, imm⟩ = (true, false)) := Lib.hid (by unfold readsP; dsimp only; rw [Prod.mk.injEq]; refine ⟨?_, ?_⟩ <;> simp <;> omega)
    go_enter Tryz.func77, Tryz.ntmps77
    go_upto_region 1 with (fail)
    generalize hW : World.alloc zz _ = z0
    have B : Hid (∀ w, Upd [] z0 w → w.heap[zz.heap.size]? = some (.cells (InstV.mk op rd r1 r2 imm).arr 69 (0, 0))) := Lib.hid (fun w u => u.keep (by rw [← hW]; exact Go.heap_alloc_last zz _) (by simp))
    have U0 : Hid (Upd [] zz z0) := Lib.hid (by rw [← hW]; exact (Upd.refl _ _).alloc _)
    have U : Hid (Upd [] z0 z0) := Lib.hid (Upd.refl _ _)
    clear hW
    have W0 : Hid (∀ w, Calls Tryz.prog 118 #[.agg (InstV.mk op rd r1 r2 imm).arr, .int .i64 5, .int .i64 10] w fun e z' => e = .returned (.bool false) ∧ Upd [] w z') := Lib.hid (fun w => by
      have h := within_calls op rd r1 r2 imm 5 10 w
      first
        | rw [decide_eq_true (show 5 ≤ op ∧ op ≤ 10 by omega)] at h
        | rw [decide_eq_false (show ¬ (5 ≤ op ∧ op ≤ 10) by omega)] at h
      exact h)
    go_wp2_with (first
      | go_skip
      | ((with_reducible refine at_op 6 ?_); refine L_load 69 (.tmp 1) rfl (by kernel_rfl) _ _ rfl (InstV.mk op rd r1 r2 imm).arr (row_arr (B.out _ U.out)) Tryz.underlying69 rfl 5 info_inst rfl ?_))
    refine (W0.out _).mono ?_
    rintro e w' ⟨rfl, u⟩
    replace U := Lib.hid (U.out.trans u)
    clear u W0
    have c0 : w'.cell? ⟨zz.heap.size, 0, none⟩ = some (.int .i64 (op : Int)) := by rw [cells_of (B.out _ U.out)]; rfl
    have W0 : Hid (∀ w, Calls Tryz.prog 118 #[.agg (InstV.mk op rd r1 r2 imm).arr, .int .i64 16, .int .i64 18] w fun e z' => e = .returned (.bool false) ∧ Upd [] w z') := Lib.hid (fun w => by
      have h := within_calls op rd r1 r2 imm 16 18 w
      first
        | rw [decide_eq_true (show 16 ≤ op ∧ op ≤ 18 by omega)] at h
        | rw [decide_eq_false (show ¬ (16 ≤ op ∧ op ≤ 18) by omega)] at h
      exact h)
    go_wp2_with (first
      | go_skip
      | ((with_reducible refine at_op 9 ?_); refine L_load 69 (.tmp 1) rfl (by kernel_rfl) _ _ rfl (InstV.mk op rd r1 r2 imm).arr (row_arr (B.out _ U.out)) Tryz.underlying69 rfl 5 info_inst rfl ?_))
    refine (W0.out _).mono ?_
    rintro e w' ⟨rfl, u⟩
    replace U := Lib.hid (U.out.trans u)
    clear u W0
    have c0 : w'.cell? ⟨zz.heap.size, 0, none⟩ = some (.int .i64 (op : Int)) := by rw [cells_of (B.out _ U.out)]; rfl
    have W0 : Hid (∀ w, Calls Tryz.prog 118 #[.agg (InstV.mk op rd r1 r2 imm).arr, .int .i64 28, .int .i64 45] w fun e z' => e = .returned (.bool false) ∧ Upd [] w z') := Lib.hid (fun w => by
      have h := within_calls op rd r1 r2 imm 28 45 w
      first
        | rw [decide_eq_true (show 28 ≤ op ∧ op ≤ 45 by omega)] at h
        | rw [decide_eq_false (show ¬ (28 ≤ op ∧ op ≤ 45) by omega)] at h
      exact h)
    go_wp2_with (first
      | go_skip
      | ((with_reducible refine at_op 13 ?_); refine L_load 69 (.tmp 1) rfl (by kernel_rfl) _ _ rfl (InstV.mk op rd r1 r2 imm).arr (row_arr (B.out _ U.out)) Tryz.underlying69 rfl 5 info_inst rfl ?_))
    refine (W0.out _).mono ?_
    rintro e w' ⟨rfl, u⟩
    replace U := Lib.hid (U.out.trans u)
    clear u W0
    have c0 : w'.cell? ⟨zz.heap.size, 0, none⟩ = some (.int .i64 (op : Int)) := by rw [cells_of (B.out _ U.out)]; rfl
    have W0 : Hid (∀ w, Calls Tryz.prog 118 #[.agg (InstV.mk op rd r1 r2 imm).arr, .int .i64 11, .int .i64 15] w fun e z' => e = .returned (.bool false) ∧ Upd [] w z') := Lib.hid (fun w => by
      have h := within_calls op rd r1 r2 imm 11 15 w
      first
        | rw [decide_eq_true (show 11 ≤ op ∧ op ≤ 15 by omega)] at h
        | rw [decide_eq_false (show ¬ (11 ≤ op ∧ op ≤ 15) by omega)] at h
      exact h)
    go_wp2_with (first
      | go_skip
      | ((with_reducible refine at_op 23 ?_); refine L_load 69 (.tmp 1) rfl (by kernel_rfl) _ _ rfl (InstV.mk op rd r1 r2 imm).arr (row_arr (B.out _ U.out)) Tryz.underlying69 rfl 5 info_inst rfl ?_))
    refine (W0.out _).mono ?_
    rintro e w' ⟨rfl, u⟩
    replace U := Lib.hid (U.out.trans u)
    clear u W0
    have c0 : w'.cell? ⟨zz.heap.size, 0, none⟩ = some (.int .i64 (op : Int)) := by rw [cells_of (B.out _ U.out)]; rfl
    have W0 : Hid (∀ w, Calls Tryz.prog 118 #[.agg (InstV.mk op rd r1 r2 imm).arr, .int .i64 19, .int .i64 27] w fun e z' => e = .returned (.bool true) ∧ Upd [] w z') := Lib.hid (fun w => by
      have h := within_calls op rd r1 r2 imm 19 27 w
      first
        | rw [decide_eq_true (show 19 ≤ op ∧ op ≤ 27 by omega)] at h
        | rw [decide_eq_false (show ¬ (19 ≤ op ∧ op ≤ 27) by omega)] at h
      exact h)
    go_wp2_with (first
      | go_skip
      | ((with_reducible refine at_op 27 ?_); refine L_load 69 (.tmp 1) rfl (by kernel_rfl) _ _ rfl (InstV.mk op rd r1 r2 imm).arr (row_arr (B.out _ U.out)) Tryz.underlying69 rfl 5 info_inst rfl ?_))
    refine (W0.out _).mono ?_
    rintro e w' ⟨rfl, u⟩
    replace U := Lib.hid (U.out.trans u)
    clear u W0
    have c0 : w'.cell? ⟨zz.heap.size, 0, none⟩ = some (.int .i64 (op : Int)) := by rw [cells_of (B.out _ U.out)]; rfl
    go_wp2_with (fail)
    go_ret2
    exact ⟨by rw [HR.out]; rfl, U0.out.trans U.out⟩
  by_cases h7 : 50 ≤ op ∧ op ≤ 52
  ·
    have HR : Hid (readsP ⟨op, rd, r1, r2, imm⟩ = (true, false)) := Lib.hid (by unfold readsP; dsimp only; rw [Prod.mk.injEq]; refine ⟨?_, ?_⟩ <;> simp <;> omega)
    go_enter Tryz.func77, Tryz.ntmps77
    go_upto_region 1 with (fail)
    generalize hW : World.alloc zz _ = z0
    have B : Hid (∀ w, Upd [] z0 w → w.heap[zz.heap.size]? = some (.cells (InstV.mk op rd r1 r2 imm).arr 69 (0, 0))) := Lib.hid (fun w u => u.keep (by rw [← hW]; exact Go.heap_alloc_last zz _) (by simp))
    have U0 : Hid (Upd [] zz z0) := Lib.hid (by rw [← hW]; exact (Upd.refl _ _).alloc _)
    have U : Hid (Upd [] z0 z0) := Lib.hid (Upd.refl _ _)
    clear hW
    have W0 : Hid (∀ w, Calls Tryz.prog 118 #[.agg (InstV.mk op rd r1 r2 imm).arr, .int .i64 5, .int .i64 10] w fun e z' => e = .returned (.bool false) ∧ Upd [] w z') := Lib.hid (fun w => by
      have h := within_calls op rd r1 r2 imm 5 10 w
      first
        | rw [decide_eq_true (show 5 ≤ op ∧ op ≤ 10 by omega)] at h
        | rw [decide_eq_false (show ¬ (5 ≤ op ∧ op ≤ 10) by omega)] at h
      exact h)
    go_wp2_with (first
      | go_skip
      | ((with_reducible refine at_op 6 ?_); refine L_load 69 (.tmp 1) rfl (by kernel_rfl) _ _ rfl (InstV.mk op rd r1 r2 imm).arr (row_arr (B.out _ U.out)) Tryz.underlying69 rfl 5 info_inst rfl ?_))
    refine (W0.out _).mono ?_
    rintro e w' ⟨rfl, u⟩
    replace U := Lib.hid (U.out.trans u)
    clear u W0
    have c0 : w'.cell? ⟨zz.heap.size, 0, none⟩ = some (.int .i64 (op : Int)) := by rw [cells_of (B.out _ U.out)]; rfl
    have W0 : Hid (∀ w, Calls Tryz.prog 118 #[.agg (InstV.mk op rd r1 r2 imm).arr, .int .i64 16, .int .i64 18] w fun e z' => e = .returned (.bool false) ∧ Upd [] w z') := Lib.hid (fun w => by
      have h := within_calls op rd r1 r2 imm 16 18 w
      first
        | rw [decide_eq_true (show 16 ≤ op ∧ op ≤ 18 by omega)] at h
        | rw [decide_eq_false (show ¬ (16 ≤ op ∧ op ≤ 18) by omega)] at h
      exact h)
    go_wp2_with (first
      | go_skip
      | ((with_reducible refine at_op 9 ?_); refine L_load 69 (.tmp 1) rfl (by kernel_rfl) _ _ rfl (InstV.mk op rd r1 r2 imm).arr (row_arr (B.out _ U.out)) Tryz.underlying69 rfl 5 info_inst rfl ?_))
    refine (W0.out _).mono ?_
    rintro e w' ⟨rfl, u⟩
    replace U := Lib.hid (U.out.trans u)
    clear u W0
    have c0 : w'.cell? ⟨zz.heap.size, 0, none⟩ = some (.int .i64 (op : Int)) := by rw [cells_of (B.out _ U.out)]; rfl
    have W0 : Hid (∀ w, Calls Tryz.prog 118 #[.agg (InstV.mk op rd r1 r2 imm).arr, .int .i64 28, .int .i64 45] w fun e z' => e = .returned (.bool false) ∧ Upd [] w z') := Lib.hid (fun w => by
      have h := within_calls op rd r1 r2 imm 28 45 w
      first
        | rw [decide_eq_true (show 28 ≤ op ∧ op ≤ 45 by omega)] at h
        | rw [decide_eq_false (show ¬ (28 ≤ op ∧ op ≤ 45) by omega)] at h
      exact h)
    go_wp2_with (first
      | go_skip
      | ((with_reducible refine at_op 13 ?_); refine L_load 69 (.tmp 1) rfl (by kernel_rfl) _ _ rfl (InstV.mk op rd r1 r2 imm).arr (row_arr (B.out _ U.out)) Tryz.underlying69 rfl 5 info_inst rfl ?_))
    refine (W0.out _).mono ?_
    rintro e w' ⟨rfl, u⟩
    replace U := Lib.hid (U.out.trans u)
    clear u W0
    have c0 : w'.cell? ⟨zz.heap.size, 0, none⟩ = some (.int .i64 (op : Int)) := by rw [cells_of (B.out _ U.out)]; rfl
    have W0 : Hid (∀ w, Calls Tryz.prog 118 #[.agg (InstV.mk op rd r1 r2 imm).arr, .int .i64 11, .int .i64 15] w fun e z' => e = .returned (.bool false) ∧ Upd [] w z') := Lib.hid (fun w => by
      have h := within_calls op rd r1 r2 imm 11 15 w
      first
        | rw [decide_eq_true (show 11 ≤ op ∧ op ≤ 15 by omega)] at h
        | rw [decide_eq_false (show ¬ (11 ≤ op ∧ op ≤ 15) by omega)] at h
      exact h)
    go_wp2_with (first
      | go_skip
      | ((with_reducible refine at_op 23 ?_); refine L_load 69 (.tmp 1) rfl (by kernel_rfl) _ _ rfl (InstV.mk op rd r1 r2 imm).arr (row_arr (B.out _ U.out)) Tryz.underlying69 rfl 5 info_inst rfl ?_))
    refine (W0.out _).mono ?_
    rintro e w' ⟨rfl, u⟩
    replace U := Lib.hid (U.out.trans u)
    clear u W0
    have c0 : w'.cell? ⟨zz.heap.size, 0, none⟩ = some (.int .i64 (op : Int)) := by rw [cells_of (B.out _ U.out)]; rfl
    have W0 : Hid (∀ w, Calls Tryz.prog 118 #[.agg (InstV.mk op rd r1 r2 imm).arr, .int .i64 19, .int .i64 27] w fun e z' => e = .returned (.bool false) ∧ Upd [] w z') := Lib.hid (fun w => by
      have h := within_calls op rd r1 r2 imm 19 27 w
      first
        | rw [decide_eq_true (show 19 ≤ op ∧ op ≤ 27 by omega)] at h
        | rw [decide_eq_false (show ¬ (19 ≤ op ∧ op ≤ 27) by omega)] at h
      exact h)
    go_wp2_with (first
      | go_skip
      | ((with_reducible refine at_op 27 ?_); refine L_load 69 (.tmp 1) rfl (by kernel_rfl) _ _ rfl (InstV.mk op rd r1 r2 imm).arr (row_arr (B.out _ U.out)) Tryz.underlying69 rfl 5 info_inst rfl ?_))
    refine (W0.out _).mono ?_
    rintro e w' ⟨rfl, u⟩
    replace U := Lib.hid (U.out.trans u)
    clear u W0
    have c0 : w'.cell? ⟨zz.heap.size, 0, none⟩ = some (.int .i64 (op : Int)) := by rw [cells_of (B.out _ U.out)]; rfl
    have W0 : Hid (∀ w, Calls Tryz.prog 118 #[.agg (InstV.mk op rd r1 r2 imm).arr, .int .i64 50, .int .i64 52] w fun e z' => e = .returned (.bool true) ∧ Upd [] w z') := Lib.hid (fun w => by
      have h := within_calls op rd r1 r2 imm 50 52 w
      first
        | rw [decide_eq_true (show 50 ≤ op ∧ op ≤ 52 by omega)] at h
        | rw [decide_eq_false (show ¬ (50 ≤ op ∧ op ≤ 52) by omega)] at h
      exact h)
    go_wp2_with (first
      | go_skip
      | ((with_reducible refine at_op 31 ?_); refine L_load 69 (.tmp 1) rfl (by kernel_rfl) _ _ rfl (InstV.mk op rd r1 r2 imm).arr (row_arr (B.out _ U.out)) Tryz.underlying69 rfl 5 info_inst rfl ?_))
    refine (W0.out _).mono ?_
    rintro e w' ⟨rfl, u⟩
    replace U := Lib.hid (U.out.trans u)
    clear u W0
    have c0 : w'.cell? ⟨zz.heap.size, 0, none⟩ = some (.int .i64 (op : Int)) := by rw [cells_of (B.out _ U.out)]; rfl
    go_wp2_with (fail)
    go_ret2
    exact ⟨by rw [HR.out]; rfl, U0.out.trans U.out⟩
  have HR : Hid (readsP ⟨op, rd, r1, r2, imm⟩ = (false, false)) := Lib.hid (by unfold readsP; dsimp only; rw [Prod.mk.injEq]; refine ⟨?_, ?_⟩ <;> simp <;> omega)
  go_enter Tryz.func77, Tryz.ntmps77
  go_upto_region 1 with (fail)
  generalize hW : World.alloc zz _ = z0
  have B : Hid (∀ w, Upd [] z0 w → w.heap[zz.heap.size]? = some (.cells (InstV.mk op rd r1 r2 imm).arr 69 (0, 0))) := Lib.hid (fun w u => u.keep (by rw [← hW]; exact Go.heap_alloc_last zz _) (by simp))
  have U0 : Hid (Upd [] zz z0) := Lib.hid (by rw [← hW]; exact (Upd.refl _ _).alloc _)
  have U : Hid (Upd [] z0 z0) := Lib.hid (Upd.refl _ _)
  clear hW
  have W0 : Hid (∀ w, Calls Tryz.prog 118 #[.agg (InstV.mk op rd r1 r2 imm).arr, .int .i64 5, .int .i64 10] w fun e z' => e = .returned (.bool false) ∧ Upd [] w z') := Lib.hid (fun w => by
    have h := within_calls op rd r1 r2 imm 5 10 w
    first
      | rw [decide_eq_true (show 5 ≤ op ∧ op ≤ 10 by omega)] at h
      | rw [decide_eq_false (show ¬ (5 ≤ op ∧ op ≤ 10) by omega)] at h
    exact h)
  go_wp2_with (first
    | go_skip
    | ((with_reducible refine at_op 6 ?_); refine L_load 69 (.tmp 1) rfl (by kernel_rfl) _ _ rfl (InstV.mk op rd r1 r2 imm).arr (row_arr (B.out _ U.out)) Tryz.underlying69 rfl 5 info_inst rfl ?_))
  refine (W0.out _).mono ?_
  rintro e w' ⟨rfl, u⟩
  replace U := Lib.hid (U.out.trans u)
  clear u W0
  have c0 : w'.cell? ⟨zz.heap.size, 0, none⟩ = some (.int .i64 (op : Int)) := by rw [cells_of (B.out _ U.out)]; rfl
  have W0 : Hid (∀ w, Calls Tryz.prog 118 #[.agg (InstV.mk op rd r1 r2 imm).arr, .int .i64 16, .int .i64 18] w fun e z' => e = .returned (.bool false) ∧ Upd [] w z') := Lib.hid (fun w => by
    have h := within_calls op rd r1 r2 imm 16 18 w
    first
      | rw [decide_eq_true (show 16 ≤ op ∧ op ≤ 18 by omega)] at h
      | rw [decide_eq_false (show ¬ (16 ≤ op ∧ op ≤ 18) by omega)] at h
    exact h)
  go_wp2_with (first
    | go_skip
    | ((with_reducible refine at_op 9 ?_); refine L_load 69 (.tmp 1) rfl (by kernel_rfl) _ _ rfl (InstV.mk op rd r1 r2 imm).arr (row_arr (B.out _ U.out)) Tryz.underlying69 rfl 5 info_inst rfl ?_))
  refine (W0.out _).mono ?_
  rintro e w' ⟨rfl, u⟩
  replace U := Lib.hid (U.out.trans u)
  clear u W0
  have c0 : w'.cell? ⟨zz.heap.size, 0, none⟩ = some (.int .i64 (op : Int)) := by rw [cells_of (B.out _ U.out)]; rfl
  have W0 : Hid (∀ w, Calls Tryz.prog 118 #[.agg (InstV.mk op rd r1 r2 imm).arr, .int .i64 28, .int .i64 45] w fun e z' => e = .returned (.bool false) ∧ Upd [] w z') := Lib.hid (fun w => by
    have h := within_calls op rd r1 r2 imm 28 45 w
    first
      | rw [decide_eq_true (show 28 ≤ op ∧ op ≤ 45 by omega)] at h
      | rw [decide_eq_false (show ¬ (28 ≤ op ∧ op ≤ 45) by omega)] at h
    exact h)
  go_wp2_with (first
    | go_skip
    | ((with_reducible refine at_op 13 ?_); refine L_load 69 (.tmp 1) rfl (by kernel_rfl) _ _ rfl (InstV.mk op rd r1 r2 imm).arr (row_arr (B.out _ U.out)) Tryz.underlying69 rfl 5 info_inst rfl ?_))
  refine (W0.out _).mono ?_
  rintro e w' ⟨rfl, u⟩
  replace U := Lib.hid (U.out.trans u)
  clear u W0
  have c0 : w'.cell? ⟨zz.heap.size, 0, none⟩ = some (.int .i64 (op : Int)) := by rw [cells_of (B.out _ U.out)]; rfl
  have W0 : Hid (∀ w, Calls Tryz.prog 118 #[.agg (InstV.mk op rd r1 r2 imm).arr, .int .i64 11, .int .i64 15] w fun e z' => e = .returned (.bool false) ∧ Upd [] w z') := Lib.hid (fun w => by
    have h := within_calls op rd r1 r2 imm 11 15 w
    first
      | rw [decide_eq_true (show 11 ≤ op ∧ op ≤ 15 by omega)] at h
      | rw [decide_eq_false (show ¬ (11 ≤ op ∧ op ≤ 15) by omega)] at h
    exact h)
  go_wp2_with (first
    | go_skip
    | ((with_reducible refine at_op 23 ?_); refine L_load 69 (.tmp 1) rfl (by kernel_rfl) _ _ rfl (InstV.mk op rd r1 r2 imm).arr (row_arr (B.out _ U.out)) Tryz.underlying69 rfl 5 info_inst rfl ?_))
  refine (W0.out _).mono ?_
  rintro e w' ⟨rfl, u⟩
  replace U := Lib.hid (U.out.trans u)
  clear u W0
  have c0 : w'.cell? ⟨zz.heap.size, 0, none⟩ = some (.int .i64 (op : Int)) := by rw [cells_of (B.out _ U.out)]; rfl
  have W0 : Hid (∀ w, Calls Tryz.prog 118 #[.agg (InstV.mk op rd r1 r2 imm).arr, .int .i64 19, .int .i64 27] w fun e z' => e = .returned (.bool false) ∧ Upd [] w z') := Lib.hid (fun w => by
    have h := within_calls op rd r1 r2 imm 19 27 w
    first
      | rw [decide_eq_true (show 19 ≤ op ∧ op ≤ 27 by omega)] at h
      | rw [decide_eq_false (show ¬ (19 ≤ op ∧ op ≤ 27) by omega)] at h
    exact h)
  go_wp2_with (first
    | go_skip
    | ((with_reducible refine at_op 27 ?_); refine L_load 69 (.tmp 1) rfl (by kernel_rfl) _ _ rfl (InstV.mk op rd r1 r2 imm).arr (row_arr (B.out _ U.out)) Tryz.underlying69 rfl 5 info_inst rfl ?_))
  refine (W0.out _).mono ?_
  rintro e w' ⟨rfl, u⟩
  replace U := Lib.hid (U.out.trans u)
  clear u W0
  have c0 : w'.cell? ⟨zz.heap.size, 0, none⟩ = some (.int .i64 (op : Int)) := by rw [cells_of (B.out _ U.out)]; rfl
  have W0 : Hid (∀ w, Calls Tryz.prog 118 #[.agg (InstV.mk op rd r1 r2 imm).arr, .int .i64 50, .int .i64 52] w fun e z' => e = .returned (.bool false) ∧ Upd [] w z') := Lib.hid (fun w => by
    have h := within_calls op rd r1 r2 imm 50 52 w
    first
      | rw [decide_eq_true (show 50 ≤ op ∧ op ≤ 52 by omega)] at h
      | rw [decide_eq_false (show ¬ (50 ≤ op ∧ op ≤ 52) by omega)] at h
    exact h)
  go_wp2_with (first
    | go_skip
    | ((with_reducible refine at_op 31 ?_); refine L_load 69 (.tmp 1) rfl (by kernel_rfl) _ _ rfl (InstV.mk op rd r1 r2 imm).arr (row_arr (B.out _ U.out)) Tryz.underlying69 rfl 5 info_inst rfl ?_))
  refine (W0.out _).mono ?_
  rintro e w' ⟨rfl, u⟩
  replace U := Lib.hid (U.out.trans u)
  clear u W0
  have c0 : w'.cell? ⟨zz.heap.size, 0, none⟩ = some (.int .i64 (op : Int)) := by rw [cells_of (B.out _ U.out)]; rfl
  go_wp2_with (fail)
  go_ret2
  exact ⟨by rw [HR.out]; rfl, U0.out.trans U.out⟩
end Go.Proofs.YtmdjhahafjlebaaGreatDoor
