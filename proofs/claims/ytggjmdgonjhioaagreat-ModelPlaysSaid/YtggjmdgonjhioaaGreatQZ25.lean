/- One instruction: what is decoded is in bounds; where a load goes: the code's. -/
import Derived.Test.YtggjmdgonjhioaaGreatQZ24
namespace Go.Proofs.YtggjmdgonjhioaaGreat
open Go.RowKit Go.Dio
set_option linter.unusedSimpArgs false
set_option linter.unusedVariables false

def WfI (i : InstV) : Prop := i.op ≤ 55 ∧ i.rd < 32 ∧ i.r1 < 32 ∧ i.r2 < 32 ∧ -2147483648 ≤ i.imm ∧ i.imm ≤ 2147483647
theorem WfI.no : WfI noI := by unfold WfI noI; decide
theorem WfI.mk2 {o rd r1 r2 : Nat} {imm : Int} (ho : o ≤ 55) (hd : rd < 32) (h1 : r1 < 32) (h2 : r2 < 32) (hi : -2147483648 ≤ imm ∧ imm ≤ 2147483647) : WfI (withI o ⟨0, rd, r1, r2, imm⟩) := by
  unfold withI
  split
  · exact WfI.no
  · exact ⟨ho, hd, h1, h2, hi⟩
theorem nthLe {l : List Nat} {B : Nat} (h : ∀ x ∈ l, x ≤ B) (k : Nat) : nth l k ≤ B := by
  by_cases hk : k < l.length
  · rw [nth_eq l k hk]; exact h _ (List.getElem_mem hk)
  · rw [show nth l k = 0 by simp [nth, show l.length ≤ k by omega]]; exact Nat.zero_le _
theorem immI_in (w : Nat) : -2147483648 ≤ immI w ∧ immI w ≤ 2147483647 := sx_lo _ 12 (by decide) (by decide)
theorem immS_in (w : Nat) : -2147483648 ≤ immS w ∧ immS w ≤ 2147483647 := sx_lo _ 12 (by decide) (by decide)
theorem immB_in (w : Nat) : -2147483648 ≤ immB w ∧ immB w ≤ 2147483647 := sx_lo _ 13 (by decide) (by decide)
theorem immJ_in (w : Nat) : -2147483648 ≤ immJ w ∧ immJ w ≤ 2147483647 := sx_lo _ 21 (by decide) (by decide)
theorem immU_in (w : Nat) : -2147483648 ≤ immU w ∧ immU w ≤ 2147483647 := by
  unfold immU
  have h := fb_lt w 12 20
  have h2 : fb w 12 20 * 4096 < 2 ^ 32 := by
    have : fb w 12 20 * 4096 < 2 ^ 20 * 4096 := Nat.mul_lt_mul_of_pos_right h (by decide)
    exact Nat.lt_of_lt_of_le this (by decide)
  exact ⟨s32_lo _ h2, s32_hi _ h2⟩
theorem fb5 (w a : Nat) : fb w a 5 < 32 := fb_lt w a 5
theorem fb12_in (w : Nat) : (-2147483648 : Int) ≤ ((fb w 20 12 : Nat) : Int) ∧ ((fb w 20 12 : Nat) : Int) ≤ 2147483647 := by have := fb_lt w 20 12; omega
theorem wfm {op rd r1 r2 : Nat} {imm : Int} (h0 : op ≤ 55) (hd : rd < 32) (h1 : r1 < 32) (h2 : r2 < 32) (hi : -2147483648 ≤ imm ∧ imm ≤ 2147483647) : WfI ⟨op, rd, r1, r2, imm⟩ := ⟨h0, hd, h1, h2, hi⟩
set_option maxHeartbeats 1000000 in
theorem decodeP_wf (w : Nat) : WfI (decodeP w) := by
  have hd := fb5 w 7
  have h1 := fb5 w 15
  have h2 := fb5 w 20
  unfold decodeP
  generalize fb w 7 5 = rd at *
  generalize fb w 15 5 = r1 at *
  generalize fb w 20 5 = r2 at *
  generalize fb w 0 7 = code
  generalize fb w 12 3 = f3
  generalize fb w 25 7 = f7
  unfold codeP
  split
  · exact wfm (by decide) (hd) (by decide) (by decide) (immU_in w)
  split
  · exact wfm (by decide) (hd) (by decide) (by decide) (immU_in w)
  split
  · exact wfm (by decide) (hd) (by decide) (by decide) (immJ_in w)
  split
  · split
    · exact wfm (by decide) (hd) (h1) (by decide) (immI_in w)
    · exact WfI.no
  split
  · exact WfI.mk2 (nthLe (by decide) f3) (by decide) (h1) (h2) (immB_in w)
  split
  · exact WfI.mk2 (nthLe (by decide) f3) (hd) (h1) (by decide) (immI_in w)
  split
  · exact WfI.mk2 (nthLe (by decide) f3) (by decide) (h1) (h2) (immS_in w)
  split
  · unfold immP
    split
    · exact WfI.mk2 (nthLe (by decide) f3) (hd) (h1) (by decide) (immI_in w)
    split
    · exact wfm (by decide) (hd) (h1) (by decide) (by omega)
    split
    · exact wfm (by decide) (hd) (h1) (by decide) (by omega)
    split
    · exact wfm (by decide) (hd) (h1) (by decide) (by omega)
    exact WfI.no
  split
  · refine WfI.mk2 ?_ hd h1 h2 (by decide)
    unfold opR
    split
    · exact nthLe (by decide) f3
    split
    · exact nthLe (by decide) f3
    split
    · decide
    split
    · decide
    decide
  split
  · split
    · exact wfm (by decide) (by decide) (by decide) (by decide) (by decide)
    · exact WfI.no
  split
  · unfold sysP
    split
    · exact wfm (by decide) (by decide) (by decide) (by decide) (by decide)
    split
    · exact wfm (by decide) (by decide) (by decide) (by decide) (by decide)
    split
    · exact wfm (by decide) (by decide) (by decide) (by decide) (by decide)
    exact WfI.mk2 (nthLe (by decide) f3) (hd) (h1) (by decide) (fb12_in w)
  exact WfI.no
/-- Where a word is loaded, if one is. -/
def LdI (D : InstV) (a x : Nat) (d : Bool) : Prop :=
  (d = true → x = low2 (u32 ((a : Int) + D.imm)) ∧ 11 ≤ D.op ∧ D.op ≤ 15 ∧ (accessP D.op (u32 ((a : Int) + D.imm))).2 = false) ∧
  (d = false → D.op < 11 ∨ 15 < D.op ∨ (accessP D.op (u32 ((a : Int) + D.imm))).2 = true)
set_option maxRecDepth 20000 in
set_option maxHeartbeats 4000000 in
theorem loads_calls (w a : Nat) (hw : w < 2 ^ 32) (ha : a < 2 ^ 32) (zz : World) :
    Calls Tryz.prog 45 #[.int .u32 (w : Int), .int .u32 (a : Int)] zz fun e z' => ∃ (x : Nat) (d : Bool), e = .returned (.tuple #[.int .u32 (x : Int), .bool d]) ∧ LdI (decodeP w) a x d ∧ Upd [] zz z' := by
  have DC := Lib.hid (fun z => decode_calls w hw z)
  have hwf := decodeP_wf w
  generalize decodeP w = D at *
  obtain ⟨op, rd, r1, r2, imm⟩ := D
  obtain ⟨h55, _, _, _, hi1, hi2⟩ := hwf
  dsimp only at h55 hi1 hi2 ⊢
  have LF : ∀ x, (op < 11 ∨ 15 < op ∨ (accessP op (u32 ((a : Int) + imm))).2 = true) → LdI ⟨op, rd, r1, r2, imm⟩ a x false := fun x h => ⟨fun h2 => absurd h2 (by decide), fun _ => h⟩
  have LT : 11 ≤ op → op ≤ 15 → (accessP op (u32 ((a : Int) + imm))).2 = false → LdI ⟨op, rd, r1, r2, imm⟩ a (low2 (u32 ((a : Int) + imm))) true := fun h1 h2 h3 => ⟨fun _ => ⟨rfl, h1, h2, h3⟩, fun h => absurd h (by decide)⟩
  generalize hLd : LdI ⟨op, rd, r1, r2, imm⟩ a = LL at *
  clear hLd
  have v1 := wrap_u32 imm
  have v2 := addr_mod a imm
  have v3 := addr_wrap a imm
  have hal := u32_lt ((a : Int) + imm)
  generalize u32 ((a : Int) + imm) = ad at *
  generalize u32 imm = ui at *
  have X := Lib.hid (fun z => access_calls op ad z h55 hal)
  have wl := high2 ad hal
  have hl4 : low2 ad = ad / 4 * 4 := rfl
  rw [hl4] at LT
  clear hl4
  generalize ad / 4 * 4 = l at *
  have HF := Lib.hid LF
  have HT := Lib.hid LT
  clear LF LT
  generalize (accessP op ad).1 = cause at *
  generalize (accessP op ad).2 = bad at *
  show Calls _ _ #[_, _] _ _
  by_cases h0 : op = 0
  · subst h0
    go_enter Tryz.func45, Tryz.ntmps45
    go_wp2_with (fail)
    refine (DC.out _).mono ?_
    rintro e w1 ⟨rfl, u1⟩
    unfold InstV.arr
    go_wp2_with (fail)
    go_ret2
    exact ⟨0, false, rfl, HF.out 0 (.inl (by decide)), u1.alloc _⟩
  · have hne : decide (op ≠ 0) = true := decide_eq_true h0
    rw [hne] at DC
    clear hne
    by_cases h1 : op < 11
    · have d1 : decide ((op : Int) < 11) = true := decide_eq_true (by omega)
      go_enter Tryz.func45, Tryz.ntmps45
      go_wp2_with (fail)
      refine (DC.out _).mono ?_
      rintro e w1 ⟨rfl, u1⟩
      unfold InstV.arr
      go_wp2_with (fail)
      go_ret2
      exact ⟨0, false, rfl, HF.out 0 (.inl h1), u1.alloc _⟩
    · have d1 : decide ((op : Int) < 11) = false := decide_eq_false (by omega)
      by_cases h2 : 15 < op
      · have d2 : decide ((15 : Int) < (op : Int)) = true := decide_eq_true (by omega)
        go_enter Tryz.func45, Tryz.ntmps45
        go_wp2_with (fail)
        refine (DC.out _).mono ?_
        rintro e w1 ⟨rfl, u1⟩
        unfold InstV.arr
        go_wp2_with (fail)
        go_ret2
        exact ⟨0, false, rfl, HF.out 0 (.inr (.inl h2)), u1.alloc _⟩
      · have d2 : decide ((15 : Int) < (op : Int)) = false := decide_eq_false (by omega)
        go_enter Tryz.func45, Tryz.ntmps45
        go_wp2_with (fail)
        refine (DC.out _).mono ?_
        rintro e w1 ⟨rfl, u1⟩
        unfold InstV.arr
        go_wp2_with (first
          | (go_at_call 70; go_in)
          | go_back)
        refine (X.out _).mono ?_
        rintro e z1 ⟨rfl, rfl⟩
        have hlo : 11 ≤ op := by omega
        have hhi : op ≤ 15 := by omega
        cases bad
        · go_wp2_with (fail)
          go_ret2
          exact ⟨l, true, rfl, HT.out hlo hhi (by trivial), (u1.alloc _).alloc _⟩
        · go_wp2_with (fail)
          go_ret2
          exact ⟨l, false, rfl, HF.out l (.inr (.inr (by trivial))), (u1.alloc _).alloc _⟩
end Go.Proofs.YtggjmdgonjhioaaGreat
