/- The document's kinds of instructions, and their words. -/
import Derived.Test.YtggjmdgonjhioaaGreatQZ11
namespace Go.Proofs.YtggjmdgonjhioaaGreat
open Go.RowKit Go.Dio
set_option linter.unusedSimpArgs false
set_option linter.unusedVariables false

/-- The kind of an op: a letter. -/
def fmtP (op : Nat) : Nat :=
  if op = 1 ∨ op = 2 then 85 else if op = 3 then 74 else if op = 4 ∨ 11 ≤ op ∧ op ≤ 15 ∨ 19 ≤ op ∧ op ≤ 24 then 73
  else if 5 ≤ op ∧ op ≤ 10 then 66 else if 16 ≤ op ∧ op ≤ 18 then 83 else if 25 ≤ op ∧ op ≤ 27 then 72
  else if 28 ≤ op ∧ op ≤ 45 then 82 else if 50 ≤ op ∧ op ≤ 55 then 67 else if 46 ≤ op ∧ op ≤ 49 then 78 else 0
theorem fmt_calls (op : Nat) (z : World) (ho : op ≤ 55) :
    Calls Tryz.prog 39 #[.int .i64 (op : Int)] z fun e z' => e = .returned (.int .u8 (fmtP op : Int)) ∧ z' = z := by
  rcases (by omega : op = 0 ∨ op = 1 ∨ op = 2 ∨ op = 3 ∨ op = 4 ∨ (5 ≤ op ∧ op ≤ 10) ∨ (11 ≤ op ∧ op ≤ 15) ∨ (16 ≤ op ∧ op ≤ 18) ∨ (19 ≤ op ∧ op ≤ 24) ∨ (25 ≤ op ∧ op ≤ 27) ∨ (28 ≤ op ∧ op ≤ 45) ∨ (46 ≤ op ∧ op ≤ 49) ∨ (50 ≤ op ∧ op ≤ 55)) with rfl | rfl | rfl | rfl | rfl | h | h | h | h | h | h | h | h
  iterate 5
    ·
      go_enter Tryz.func39, Tryz.ntmps39
      go_wp2_with (fail)
      go_ret
      exact ⟨rfl, rfl⟩
  · obtain ⟨hl, hh⟩ := h
    have e1 : ((op : Int) == 1) = false := by rw [beq_eq_false_iff_ne]; omega
    have e2 : ((op : Int) == 2) = false := by rw [beq_eq_false_iff_ne]; omega
    have e3 : ((op : Int) == 3) = false := by rw [beq_eq_false_iff_ne]; omega
    have e4 : ((op : Int) == 4) = false := by rw [beq_eq_false_iff_ne]; omega
    have g11 : decide ((11 : Int) ≤ (op : Int)) = false := decide_eq_false (by omega)
    have l15 : decide ((op : Int) ≤ 15) = true := decide_eq_true (by omega)
    have g19 : decide ((19 : Int) ≤ (op : Int)) = false := decide_eq_false (by omega)
    have l24 : decide ((op : Int) ≤ 24) = true := decide_eq_true (by omega)
    have g5 : decide ((5 : Int) ≤ (op : Int)) = true := decide_eq_true (by omega)
    have l10 : decide ((op : Int) ≤ 10) = true := decide_eq_true (by omega)
    have g16 : decide ((16 : Int) ≤ (op : Int)) = false := decide_eq_false (by omega)
    have l18 : decide ((op : Int) ≤ 18) = true := decide_eq_true (by omega)
    have g25 : decide ((25 : Int) ≤ (op : Int)) = false := decide_eq_false (by omega)
    have l27 : decide ((op : Int) ≤ 27) = true := decide_eq_true (by omega)
    have g28 : decide ((28 : Int) ≤ (op : Int)) = false := decide_eq_false (by omega)
    have l45 : decide ((op : Int) ≤ 45) = true := decide_eq_true (by omega)
    have g50 : decide ((50 : Int) ≤ (op : Int)) = false := decide_eq_false (by omega)
    have l55 : decide ((op : Int) ≤ 55) = true := decide_eq_true (by omega)
    have g46 : decide ((46 : Int) ≤ (op : Int)) = false := decide_eq_false (by omega)
    have l49 : decide ((op : Int) ≤ 49) = true := decide_eq_true (by omega)
    have hf : fmtP op = 66 := by unfold fmtP; repeat (first | (rw [if_pos (by omega)]; done) | rw [if_neg (by omega)])
    rw [hf]
    clear hf hl hh ho
    go_enter Tryz.func39, Tryz.ntmps39
    go_wp2_with (fail)
    go_ret
    exact ⟨rfl, rfl⟩
  · obtain ⟨hl, hh⟩ := h
    have e1 : ((op : Int) == 1) = false := by rw [beq_eq_false_iff_ne]; omega
    have e2 : ((op : Int) == 2) = false := by rw [beq_eq_false_iff_ne]; omega
    have e3 : ((op : Int) == 3) = false := by rw [beq_eq_false_iff_ne]; omega
    have e4 : ((op : Int) == 4) = false := by rw [beq_eq_false_iff_ne]; omega
    have g11 : decide ((11 : Int) ≤ (op : Int)) = true := decide_eq_true (by omega)
    have l15 : decide ((op : Int) ≤ 15) = true := decide_eq_true (by omega)
    have g19 : decide ((19 : Int) ≤ (op : Int)) = false := decide_eq_false (by omega)
    have l24 : decide ((op : Int) ≤ 24) = true := decide_eq_true (by omega)
    have g5 : decide ((5 : Int) ≤ (op : Int)) = true := decide_eq_true (by omega)
    have l10 : decide ((op : Int) ≤ 10) = false := decide_eq_false (by omega)
    have g16 : decide ((16 : Int) ≤ (op : Int)) = false := decide_eq_false (by omega)
    have l18 : decide ((op : Int) ≤ 18) = true := decide_eq_true (by omega)
    have g25 : decide ((25 : Int) ≤ (op : Int)) = false := decide_eq_false (by omega)
    have l27 : decide ((op : Int) ≤ 27) = true := decide_eq_true (by omega)
    have g28 : decide ((28 : Int) ≤ (op : Int)) = false := decide_eq_false (by omega)
    have l45 : decide ((op : Int) ≤ 45) = true := decide_eq_true (by omega)
    have g50 : decide ((50 : Int) ≤ (op : Int)) = false := decide_eq_false (by omega)
    have l55 : decide ((op : Int) ≤ 55) = true := decide_eq_true (by omega)
    have g46 : decide ((46 : Int) ≤ (op : Int)) = false := decide_eq_false (by omega)
    have l49 : decide ((op : Int) ≤ 49) = true := decide_eq_true (by omega)
    have hf : fmtP op = 73 := by unfold fmtP; repeat (first | (rw [if_pos (by omega)]; done) | rw [if_neg (by omega)])
    rw [hf]
    clear hf hl hh ho
    go_enter Tryz.func39, Tryz.ntmps39
    go_wp2_with (fail)
    go_ret
    exact ⟨rfl, rfl⟩
  · obtain ⟨hl, hh⟩ := h
    have e1 : ((op : Int) == 1) = false := by rw [beq_eq_false_iff_ne]; omega
    have e2 : ((op : Int) == 2) = false := by rw [beq_eq_false_iff_ne]; omega
    have e3 : ((op : Int) == 3) = false := by rw [beq_eq_false_iff_ne]; omega
    have e4 : ((op : Int) == 4) = false := by rw [beq_eq_false_iff_ne]; omega
    have g11 : decide ((11 : Int) ≤ (op : Int)) = true := decide_eq_true (by omega)
    have l15 : decide ((op : Int) ≤ 15) = false := decide_eq_false (by omega)
    have g19 : decide ((19 : Int) ≤ (op : Int)) = false := decide_eq_false (by omega)
    have l24 : decide ((op : Int) ≤ 24) = true := decide_eq_true (by omega)
    have g5 : decide ((5 : Int) ≤ (op : Int)) = true := decide_eq_true (by omega)
    have l10 : decide ((op : Int) ≤ 10) = false := decide_eq_false (by omega)
    have g16 : decide ((16 : Int) ≤ (op : Int)) = true := decide_eq_true (by omega)
    have l18 : decide ((op : Int) ≤ 18) = true := decide_eq_true (by omega)
    have g25 : decide ((25 : Int) ≤ (op : Int)) = false := decide_eq_false (by omega)
    have l27 : decide ((op : Int) ≤ 27) = true := decide_eq_true (by omega)
    have g28 : decide ((28 : Int) ≤ (op : Int)) = false := decide_eq_false (by omega)
    have l45 : decide ((op : Int) ≤ 45) = true := decide_eq_true (by omega)
    have g50 : decide ((50 : Int) ≤ (op : Int)) = false := decide_eq_false (by omega)
    have l55 : decide ((op : Int) ≤ 55) = true := decide_eq_true (by omega)
    have g46 : decide ((46 : Int) ≤ (op : Int)) = false := decide_eq_false (by omega)
    have l49 : decide ((op : Int) ≤ 49) = true := decide_eq_true (by omega)
    have hf : fmtP op = 83 := by unfold fmtP; repeat (first | (rw [if_pos (by omega)]; done) | rw [if_neg (by omega)])
    rw [hf]
    clear hf hl hh ho
    go_enter Tryz.func39, Tryz.ntmps39
    go_wp2_with (fail)
    go_ret
    exact ⟨rfl, rfl⟩
  · obtain ⟨hl, hh⟩ := h
    have e1 : ((op : Int) == 1) = false := by rw [beq_eq_false_iff_ne]; omega
    have e2 : ((op : Int) == 2) = false := by rw [beq_eq_false_iff_ne]; omega
    have e3 : ((op : Int) == 3) = false := by rw [beq_eq_false_iff_ne]; omega
    have e4 : ((op : Int) == 4) = false := by rw [beq_eq_false_iff_ne]; omega
    have g11 : decide ((11 : Int) ≤ (op : Int)) = true := decide_eq_true (by omega)
    have l15 : decide ((op : Int) ≤ 15) = false := decide_eq_false (by omega)
    have g19 : decide ((19 : Int) ≤ (op : Int)) = true := decide_eq_true (by omega)
    have l24 : decide ((op : Int) ≤ 24) = true := decide_eq_true (by omega)
    have g5 : decide ((5 : Int) ≤ (op : Int)) = true := decide_eq_true (by omega)
    have l10 : decide ((op : Int) ≤ 10) = false := decide_eq_false (by omega)
    have g16 : decide ((16 : Int) ≤ (op : Int)) = true := decide_eq_true (by omega)
    have l18 : decide ((op : Int) ≤ 18) = false := decide_eq_false (by omega)
    have g25 : decide ((25 : Int) ≤ (op : Int)) = false := decide_eq_false (by omega)
    have l27 : decide ((op : Int) ≤ 27) = true := decide_eq_true (by omega)
    have g28 : decide ((28 : Int) ≤ (op : Int)) = false := decide_eq_false (by omega)
    have l45 : decide ((op : Int) ≤ 45) = true := decide_eq_true (by omega)
    have g50 : decide ((50 : Int) ≤ (op : Int)) = false := decide_eq_false (by omega)
    have l55 : decide ((op : Int) ≤ 55) = true := decide_eq_true (by omega)
    have g46 : decide ((46 : Int) ≤ (op : Int)) = false := decide_eq_false (by omega)
    have l49 : decide ((op : Int) ≤ 49) = true := decide_eq_true (by omega)
    have hf : fmtP op = 73 := by unfold fmtP; repeat (first | (rw [if_pos (by omega)]; done) | rw [if_neg (by omega)])
    rw [hf]
    clear hf hl hh ho
    go_enter Tryz.func39, Tryz.ntmps39
    go_wp2_with (fail)
    go_ret
    exact ⟨rfl, rfl⟩
  · obtain ⟨hl, hh⟩ := h
    have e1 : ((op : Int) == 1) = false := by rw [beq_eq_false_iff_ne]; omega
    have e2 : ((op : Int) == 2) = false := by rw [beq_eq_false_iff_ne]; omega
    have e3 : ((op : Int) == 3) = false := by rw [beq_eq_false_iff_ne]; omega
    have e4 : ((op : Int) == 4) = false := by rw [beq_eq_false_iff_ne]; omega
    have g11 : decide ((11 : Int) ≤ (op : Int)) = true := decide_eq_true (by omega)
    have l15 : decide ((op : Int) ≤ 15) = false := decide_eq_false (by omega)
    have g19 : decide ((19 : Int) ≤ (op : Int)) = true := decide_eq_true (by omega)
    have l24 : decide ((op : Int) ≤ 24) = false := decide_eq_false (by omega)
    have g5 : decide ((5 : Int) ≤ (op : Int)) = true := decide_eq_true (by omega)
    have l10 : decide ((op : Int) ≤ 10) = false := decide_eq_false (by omega)
    have g16 : decide ((16 : Int) ≤ (op : Int)) = true := decide_eq_true (by omega)
    have l18 : decide ((op : Int) ≤ 18) = false := decide_eq_false (by omega)
    have g25 : decide ((25 : Int) ≤ (op : Int)) = true := decide_eq_true (by omega)
    have l27 : decide ((op : Int) ≤ 27) = true := decide_eq_true (by omega)
    have g28 : decide ((28 : Int) ≤ (op : Int)) = false := decide_eq_false (by omega)
    have l45 : decide ((op : Int) ≤ 45) = true := decide_eq_true (by omega)
    have g50 : decide ((50 : Int) ≤ (op : Int)) = false := decide_eq_false (by omega)
    have l55 : decide ((op : Int) ≤ 55) = true := decide_eq_true (by omega)
    have g46 : decide ((46 : Int) ≤ (op : Int)) = false := decide_eq_false (by omega)
    have l49 : decide ((op : Int) ≤ 49) = true := decide_eq_true (by omega)
    have hf : fmtP op = 72 := by unfold fmtP; repeat (first | (rw [if_pos (by omega)]; done) | rw [if_neg (by omega)])
    rw [hf]
    clear hf hl hh ho
    go_enter Tryz.func39, Tryz.ntmps39
    go_wp2_with (fail)
    go_ret
    exact ⟨rfl, rfl⟩
  · obtain ⟨hl, hh⟩ := h
    have e1 : ((op : Int) == 1) = false := by rw [beq_eq_false_iff_ne]; omega
    have e2 : ((op : Int) == 2) = false := by rw [beq_eq_false_iff_ne]; omega
    have e3 : ((op : Int) == 3) = false := by rw [beq_eq_false_iff_ne]; omega
    have e4 : ((op : Int) == 4) = false := by rw [beq_eq_false_iff_ne]; omega
    have g11 : decide ((11 : Int) ≤ (op : Int)) = true := decide_eq_true (by omega)
    have l15 : decide ((op : Int) ≤ 15) = false := decide_eq_false (by omega)
    have g19 : decide ((19 : Int) ≤ (op : Int)) = true := decide_eq_true (by omega)
    have l24 : decide ((op : Int) ≤ 24) = false := decide_eq_false (by omega)
    have g5 : decide ((5 : Int) ≤ (op : Int)) = true := decide_eq_true (by omega)
    have l10 : decide ((op : Int) ≤ 10) = false := decide_eq_false (by omega)
    have g16 : decide ((16 : Int) ≤ (op : Int)) = true := decide_eq_true (by omega)
    have l18 : decide ((op : Int) ≤ 18) = false := decide_eq_false (by omega)
    have g25 : decide ((25 : Int) ≤ (op : Int)) = true := decide_eq_true (by omega)
    have l27 : decide ((op : Int) ≤ 27) = false := decide_eq_false (by omega)
    have g28 : decide ((28 : Int) ≤ (op : Int)) = true := decide_eq_true (by omega)
    have l45 : decide ((op : Int) ≤ 45) = true := decide_eq_true (by omega)
    have g50 : decide ((50 : Int) ≤ (op : Int)) = false := decide_eq_false (by omega)
    have l55 : decide ((op : Int) ≤ 55) = true := decide_eq_true (by omega)
    have g46 : decide ((46 : Int) ≤ (op : Int)) = false := decide_eq_false (by omega)
    have l49 : decide ((op : Int) ≤ 49) = true := decide_eq_true (by omega)
    have hf : fmtP op = 82 := by unfold fmtP; repeat (first | (rw [if_pos (by omega)]; done) | rw [if_neg (by omega)])
    rw [hf]
    clear hf hl hh ho
    go_enter Tryz.func39, Tryz.ntmps39
    go_wp2_with (fail)
    go_ret
    exact ⟨rfl, rfl⟩
  · obtain ⟨hl, hh⟩ := h
    have e1 : ((op : Int) == 1) = false := by rw [beq_eq_false_iff_ne]; omega
    have e2 : ((op : Int) == 2) = false := by rw [beq_eq_false_iff_ne]; omega
    have e3 : ((op : Int) == 3) = false := by rw [beq_eq_false_iff_ne]; omega
    have e4 : ((op : Int) == 4) = false := by rw [beq_eq_false_iff_ne]; omega
    have g11 : decide ((11 : Int) ≤ (op : Int)) = true := decide_eq_true (by omega)
    have l15 : decide ((op : Int) ≤ 15) = false := decide_eq_false (by omega)
    have g19 : decide ((19 : Int) ≤ (op : Int)) = true := decide_eq_true (by omega)
    have l24 : decide ((op : Int) ≤ 24) = false := decide_eq_false (by omega)
    have g5 : decide ((5 : Int) ≤ (op : Int)) = true := decide_eq_true (by omega)
    have l10 : decide ((op : Int) ≤ 10) = false := decide_eq_false (by omega)
    have g16 : decide ((16 : Int) ≤ (op : Int)) = true := decide_eq_true (by omega)
    have l18 : decide ((op : Int) ≤ 18) = false := decide_eq_false (by omega)
    have g25 : decide ((25 : Int) ≤ (op : Int)) = true := decide_eq_true (by omega)
    have l27 : decide ((op : Int) ≤ 27) = false := decide_eq_false (by omega)
    have g28 : decide ((28 : Int) ≤ (op : Int)) = true := decide_eq_true (by omega)
    have l45 : decide ((op : Int) ≤ 45) = false := decide_eq_false (by omega)
    have g50 : decide ((50 : Int) ≤ (op : Int)) = false := decide_eq_false (by omega)
    have l55 : decide ((op : Int) ≤ 55) = true := decide_eq_true (by omega)
    have g46 : decide ((46 : Int) ≤ (op : Int)) = true := decide_eq_true (by omega)
    have l49 : decide ((op : Int) ≤ 49) = true := decide_eq_true (by omega)
    have hf : fmtP op = 78 := by unfold fmtP; repeat (first | (rw [if_pos (by omega)]; done) | rw [if_neg (by omega)])
    rw [hf]
    clear hf hl hh ho
    go_enter Tryz.func39, Tryz.ntmps39
    go_wp2_with (fail)
    go_ret
    exact ⟨rfl, rfl⟩
  · obtain ⟨hl, hh⟩ := h
    have e1 : ((op : Int) == 1) = false := by rw [beq_eq_false_iff_ne]; omega
    have e2 : ((op : Int) == 2) = false := by rw [beq_eq_false_iff_ne]; omega
    have e3 : ((op : Int) == 3) = false := by rw [beq_eq_false_iff_ne]; omega
    have e4 : ((op : Int) == 4) = false := by rw [beq_eq_false_iff_ne]; omega
    have g11 : decide ((11 : Int) ≤ (op : Int)) = true := decide_eq_true (by omega)
    have l15 : decide ((op : Int) ≤ 15) = false := decide_eq_false (by omega)
    have g19 : decide ((19 : Int) ≤ (op : Int)) = true := decide_eq_true (by omega)
    have l24 : decide ((op : Int) ≤ 24) = false := decide_eq_false (by omega)
    have g5 : decide ((5 : Int) ≤ (op : Int)) = true := decide_eq_true (by omega)
    have l10 : decide ((op : Int) ≤ 10) = false := decide_eq_false (by omega)
    have g16 : decide ((16 : Int) ≤ (op : Int)) = true := decide_eq_true (by omega)
    have l18 : decide ((op : Int) ≤ 18) = false := decide_eq_false (by omega)
    have g25 : decide ((25 : Int) ≤ (op : Int)) = true := decide_eq_true (by omega)
    have l27 : decide ((op : Int) ≤ 27) = false := decide_eq_false (by omega)
    have g28 : decide ((28 : Int) ≤ (op : Int)) = true := decide_eq_true (by omega)
    have l45 : decide ((op : Int) ≤ 45) = false := decide_eq_false (by omega)
    have g50 : decide ((50 : Int) ≤ (op : Int)) = true := decide_eq_true (by omega)
    have l55 : decide ((op : Int) ≤ 55) = true := decide_eq_true (by omega)
    have g46 : decide ((46 : Int) ≤ (op : Int)) = true := decide_eq_true (by omega)
    have l49 : decide ((op : Int) ≤ 49) = false := decide_eq_false (by omega)
    have hf : fmtP op = 67 := by unfold fmtP; repeat (first | (rw [if_pos (by omega)]; done) | rw [if_neg (by omega)])
    rw [hf]
    clear hf hl hh ho
    go_enter Tryz.func39, Tryz.ntmps39
    go_wp2_with (fail)
    go_ret
    exact ⟨rfl, rfl⟩
end Go.Proofs.YtggjmdgonjhioaaGreat
