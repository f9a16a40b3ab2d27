/- Branches; bytes of words: the code's. -/
import Derived.Test.YtmdjhahafjlebaaGreatDoorQD22
import Derived.Test.YtmdjhahafjlebaaGreatDoorQD03
import Derived.Test.YtmdjhahafjlebaaGreatDoorQD23
namespace Go.Proofs.YtmdjhahafjlebaaGreatDoor
open Go.RowKit Go.Dio
set_option linter.unusedSimpArgs false
set_option linter.unusedVariables false

theorem dec_nat_eq (a b : Nat) : ((a : Int) == (b : Int)) = decide (a = b) := by rw [Bool.eq_iff_iff]; simp; omega
theorem dec_nat_lt (a b : Nat) : decide ((a : Int) < (b : Int)) = decide (a < b) := by simp
theorem dec_nat_le (a b : Nat) : decide ((a : Int) ≤ (b : Int)) = decide (a ≤ b) := by simp
theorem taken5 (a b : Nat) : ∀ z : World, Calls Tryz.prog 123 #[.int .i64 5, .int .u32 (a : Int), .int .u32 (b : Int)] z fun e z' => e = .returned (.bool (takenP 5 a b)) ∧ z' = z := by
  have HE := Lib.hid (show takenP 5 a b = decide (a = b) from rfl)
  have h1 := dec_nat_eq a b
  generalize decide (a = b) = d at *
  intro z
  go_enter Tryz.func123, Tryz.ntmps123
  go_wp2_with (fail)
  go_ret
  exact ⟨by first | rfl | (rw [HE.out]; rfl), rfl⟩
theorem taken6 (a b : Nat) : ∀ z : World, Calls Tryz.prog 123 #[.int .i64 6, .int .u32 (a : Int), .int .u32 (b : Int)] z fun e z' => e = .returned (.bool (takenP 6 a b)) ∧ z' = z := by
  have HE := Lib.hid (show takenP 6 a b = decide (a ≠ b) from rfl)
  have h1 : ((a : Int) != (b : Int)) = decide (a ≠ b) := by rw [Bool.eq_iff_iff]; simp; omega
  generalize decide (a ≠ b) = d at *
  intro z
  go_enter Tryz.func123, Tryz.ntmps123
  go_wp2_with (fail)
  go_ret
  exact ⟨by first | rfl | (rw [HE.out]; rfl), rfl⟩
theorem taken7 (a b : Nat) (ha : a < 2 ^ 32) (hb : b < 2 ^ 32) : ∀ z : World, Calls Tryz.prog 123 #[.int .i64 7, .int .u32 (a : Int), .int .u32 (b : Int)] z fun e z' => e = .returned (.bool (takenP 7 a b)) ∧ z' = z := by
  have sa := wrap_s32 a ha
  have sb := wrap_s32 b hb
  have HE := Lib.hid (show takenP 7 a b = decide (s32 a < s32 b) from rfl)
  generalize s32 a = x at *
  generalize s32 b = y at *
  intro z
  go_enter Tryz.func123, Tryz.ntmps123
  go_wp2_with (fail)
  go_ret
  exact ⟨by first | rfl | (rw [HE.out]; rfl), rfl⟩
theorem taken8 (a b : Nat) (ha : a < 2 ^ 32) (hb : b < 2 ^ 32) : ∀ z : World, Calls Tryz.prog 123 #[.int .i64 8, .int .u32 (a : Int), .int .u32 (b : Int)] z fun e z' => e = .returned (.bool (takenP 8 a b)) ∧ z' = z := by
  have sa := wrap_s32 a ha
  have sb := wrap_s32 b hb
  have HE := Lib.hid (show takenP 8 a b = decide (s32 b ≤ s32 a) from rfl)
  generalize s32 a = x at *
  generalize s32 b = y at *
  intro z
  go_enter Tryz.func123, Tryz.ntmps123
  go_wp2_with (fail)
  go_ret
  exact ⟨by first | rfl | (rw [HE.out]; rfl), rfl⟩
theorem taken9 (a b : Nat) : ∀ z : World, Calls Tryz.prog 123 #[.int .i64 9, .int .u32 (a : Int), .int .u32 (b : Int)] z fun e z' => e = .returned (.bool (takenP 9 a b)) ∧ z' = z := by
  have HE := Lib.hid (show takenP 9 a b = decide (a < b) from rfl)
  have h1 := dec_nat_lt a b
  generalize hd : decide (a < b) = d at *
  intro z
  go_enter Tryz.func123, Tryz.ntmps123
  go_wp2_with (fail)
  go_ret
  exact ⟨by first | rfl | (rw [HE.out]; rfl), rfl⟩
theorem taken10 (a b : Nat) : ∀ z : World, Calls Tryz.prog 123 #[.int .i64 10, .int .u32 (a : Int), .int .u32 (b : Int)] z fun e z' => e = .returned (.bool (takenP 10 a b)) ∧ z' = z := by
  have HE := Lib.hid (show takenP 10 a b = decide (b ≤ a) from rfl)
  have h1 := dec_nat_le b a
  generalize hd : decide (b ≤ a) = d at *
  intro z
  go_enter Tryz.func123, Tryz.ntmps123
  go_wp2_with (fail)
  go_ret
  exact ⟨by first | rfl | (rw [HE.out]; rfl), rfl⟩
theorem takenP_no (op a b : Nat) (h : op < 5 ∨ 10 < op) : takenP op a b = false := by
  unfold takenP; split <;> first | rfl | omega
theorem taken_calls (op a b : Nat) (z : World) (ho : op ≤ 55) (ha : a < 2 ^ 32) (hb : b < 2 ^ 32) :
    Calls Tryz.prog 123 #[.int .i64 (op : Int), .int .u32 (a : Int), .int .u32 (b : Int)] z fun e z' => e = .returned (.bool (takenP op a b)) ∧ z' = z := by
  rcases (by omega : op = 5 ∨ op = 6 ∨ op = 7 ∨ op = 8 ∨ op = 9 ∨ op = 10 ∨ (op < 5 ∨ 10 < op)) with rfl | rfl | rfl | rfl | rfl | rfl | h
  · exact taken5 a b z
  · exact taken6 a b z
  · exact taken7 a b ha hb z
  · exact taken8 a b ha hb z
  · exact taken9 a b z
  · exact taken10 a b z
  · rw [takenP_no op a b h]
    have d5 : ((op : Int) == 5) = false := by rw [beq_eq_false_iff_ne]; omega
    have d6 : ((op : Int) == 6) = false := by rw [beq_eq_false_iff_ne]; omega
    have d7 : ((op : Int) == 7) = false := by rw [beq_eq_false_iff_ne]; omega
    have d8 : ((op : Int) == 8) = false := by rw [beq_eq_false_iff_ne]; omega
    have d9 : ((op : Int) == 9) = false := by rw [beq_eq_false_iff_ne]; omega
    have d10 : ((op : Int) == 10) = false := by rw [beq_eq_false_iff_ne]; omega
    clear h ho
    go_enter Tryz.func123, Tryz.ntmps123
    go_wp2_with (fail)
    go_ret
    exact ⟨rfl, rfl⟩
theorem sizeP_no (op : Nat) (h : op < 11 ∨ 18 < op) : sizeP op = 0 := by
  unfold sizeP; split <;> first | rfl | omega
theorem size_calls (op : Nat) (z : World) (ho : op ≤ 55) :
    Calls Tryz.prog 140 #[.int .i64 (op : Int)] z fun e z' => e = .returned (.int .i64 ((sizeP op : Nat) : Int)) ∧ z' = z := by
  rcases (by omega : op = 11 ∨ op = 12 ∨ op = 13 ∨ op = 14 ∨ op = 15 ∨ op = 16 ∨ op = 17 ∨ op = 18 ∨ (op < 11 ∨ 18 < op)) with rfl | rfl | rfl | rfl | rfl | rfl | rfl | rfl | h
  iterate 8
    ·
      go_enter Tryz.func140, Tryz.ntmps140
      go_wp2_with (fail)
      go_ret
      exact ⟨rfl, rfl⟩
  rw [sizeP_no op h]
  have d11 : ((op : Int) == 11) = false := by rw [beq_eq_false_iff_ne]; omega
  have d12 : ((op : Int) == 12) = false := by rw [beq_eq_false_iff_ne]; omega
  have d13 : ((op : Int) == 13) = false := by rw [beq_eq_false_iff_ne]; omega
  have d14 : ((op : Int) == 14) = false := by rw [beq_eq_false_iff_ne]; omega
  have d15 : ((op : Int) == 15) = false := by rw [beq_eq_false_iff_ne]; omega
  have d16 : ((op : Int) == 16) = false := by rw [beq_eq_false_iff_ne]; omega
  have d17 : ((op : Int) == 17) = false := by rw [beq_eq_false_iff_ne]; omega
  have d18 : ((op : Int) == 18) = false := by rw [beq_eq_false_iff_ne]; omega
  clear h ho
  go_enter Tryz.func140, Tryz.ntmps140
  go_wp2_with (fail)
  go_ret
  exact ⟨rfl, rfl⟩
theorem isst_calls (op : Nat) (z : World) (ho : 11 ≤ op ∧ op ≤ 18) :
    Calls Tryz.prog 153 #[.int .i64 (op : Int)] z fun e z' => e = .returned (.bool (decide (16 ≤ op))) ∧ z' = z := by
  rcases (by omega : op = 11 ∨ op = 12 ∨ op = 13 ∨ op = 14 ∨ op = 15 ∨ op = 16 ∨ op = 17 ∨ op = 18) with rfl | rfl | rfl | rfl | rfl | rfl | rfl | rfl
  iterate 8
    ·
      go_enter Tryz.func153, Tryz.ntmps153
      go_wp2_with (fail)
      go_ret
      exact ⟨rfl, rfl⟩
theorem fits_calls (op addr : Nat) (z : World) (ho : 11 ≤ op ∧ op ≤ 18) (ha : addr < 2 ^ 32) :
    Calls Tryz.prog 141 #[.int .i64 (op : Int), .int .u32 (addr : Int)] z fun e z' => e = .returned (.bool (fitsP op addr)) ∧ z' = z := by
  rcases (by omega : op = 11 ∨ op = 12 ∨ op = 13 ∨ op = 14 ∨ op = 15 ∨ op = 16 ∨ op = 17 ∨ op = 18) with rfl | rfl | rfl | rfl | rfl | rfl | rfl | rfl
  · have S : Hid (∀ z : World, Calls Tryz.prog 140 #[.int .i64 11] z fun e z' => e = .returned (.int .i64 1) ∧ z' = z) := Lib.hid (fun z => size_calls 11 z (by decide))
    have HE := Lib.hid (show fitsP 11 addr = true from by unfold fitsP; simp [sizeP, Nat.mod_one])
    go_enter Tryz.func141, Tryz.ntmps141
    go_wp2_with (fail)
    refine (S.out _).mono ?_
    rintro e z1 ⟨rfl, rfl⟩
    go_wp2_with (fail)
    go_ret
    exact ⟨by rw [HE.out]; rfl, rfl⟩
  · have S : Hid (∀ z : World, Calls Tryz.prog 140 #[.int .i64 12] z fun e z' => e = .returned (.int .i64 2) ∧ z' = z) := Lib.hid (fun z => size_calls 12 z (by decide))
    have hm : ((addr % 2 : Nat) : Int) = (addr : Int) % 2 := by omega
    have h1 := dec_nat_eq (addr % 2) 0
    have h2 : ((addr : Int) % 2 == 0) = decide (addr % 2 = 0) := by rw [← hm]; exact h1
    have h3 : (addr : Int).tmod 2 = (addr : Int) % 2 := by rw [Int.tmod_eq_emod_of_nonneg (by omega)]
    have HE := Lib.hid (show fitsP 12 addr = decide (addr % 2 = 0) from by unfold fitsP; simp [sizeP])
    clear hm h1
    generalize decide (addr % 2 = 0) = d at *
    go_enter Tryz.func141, Tryz.ntmps141
    go_wp2_with (fail)
    refine (S.out _).mono ?_
    rintro e z1 ⟨rfl, rfl⟩
    go_wp2_with (fail)
    go_ret
    exact ⟨by rw [HE.out]; rfl, rfl⟩
  · have S : Hid (∀ z : World, Calls Tryz.prog 140 #[.int .i64 13] z fun e z' => e = .returned (.int .i64 4) ∧ z' = z) := Lib.hid (fun z => size_calls 13 z (by decide))
    have hm : ((addr % 4 : Nat) : Int) = (addr : Int) % 4 := by omega
    have h1 := dec_nat_eq (addr % 4) 0
    have h2 : ((addr : Int) % 4 == 0) = decide (addr % 4 = 0) := by rw [← hm]; exact h1
    have h3 : (addr : Int).tmod 4 = (addr : Int) % 4 := by rw [Int.tmod_eq_emod_of_nonneg (by omega)]
    have HE := Lib.hid (show fitsP 13 addr = decide (addr % 4 = 0) from by unfold fitsP; simp [sizeP])
    clear hm h1
    generalize decide (addr % 4 = 0) = d at *
    go_enter Tryz.func141, Tryz.ntmps141
    go_wp2_with (fail)
    refine (S.out _).mono ?_
    rintro e z1 ⟨rfl, rfl⟩
    go_wp2_with (fail)
    go_ret
    exact ⟨by rw [HE.out]; rfl, rfl⟩
  · have S : Hid (∀ z : World, Calls Tryz.prog 140 #[.int .i64 14] z fun e z' => e = .returned (.int .i64 1) ∧ z' = z) := Lib.hid (fun z => size_calls 14 z (by decide))
    have HE := Lib.hid (show fitsP 14 addr = true from by unfold fitsP; simp [sizeP, Nat.mod_one])
    go_enter Tryz.func141, Tryz.ntmps141
    go_wp2_with (fail)
    refine (S.out _).mono ?_
    rintro e z1 ⟨rfl, rfl⟩
    go_wp2_with (fail)
    go_ret
    exact ⟨by rw [HE.out]; rfl, rfl⟩
  · have S : Hid (∀ z : World, Calls Tryz.prog 140 #[.int .i64 15] z fun e z' => e = .returned (.int .i64 2) ∧ z' = z) := Lib.hid (fun z => size_calls 15 z (by decide))
    have hm : ((addr % 2 : Nat) : Int) = (addr : Int) % 2 := by omega
    have h1 := dec_nat_eq (addr % 2) 0
    have h2 : ((addr : Int) % 2 == 0) = decide (addr % 2 = 0) := by rw [← hm]; exact h1
    have h3 : (addr : Int).tmod 2 = (addr : Int) % 2 := by rw [Int.tmod_eq_emod_of_nonneg (by omega)]
    have HE := Lib.hid (show fitsP 15 addr = decide (addr % 2 = 0) from by unfold fitsP; simp [sizeP])
    clear hm h1
    generalize decide (addr % 2 = 0) = d at *
    go_enter Tryz.func141, Tryz.ntmps141
    go_wp2_with (fail)
    refine (S.out _).mono ?_
    rintro e z1 ⟨rfl, rfl⟩
    go_wp2_with (fail)
    go_ret
    exact ⟨by rw [HE.out]; rfl, rfl⟩
  · have S : Hid (∀ z : World, Calls Tryz.prog 140 #[.int .i64 16] z fun e z' => e = .returned (.int .i64 1) ∧ z' = z) := Lib.hid (fun z => size_calls 16 z (by decide))
    have HE := Lib.hid (show fitsP 16 addr = true from by unfold fitsP; simp [sizeP, Nat.mod_one])
    go_enter Tryz.func141, Tryz.ntmps141
    go_wp2_with (fail)
    refine (S.out _).mono ?_
    rintro e z1 ⟨rfl, rfl⟩
    go_wp2_with (fail)
    go_ret
    exact ⟨by rw [HE.out]; rfl, rfl⟩
  · have S : Hid (∀ z : World, Calls Tryz.prog 140 #[.int .i64 17] z fun e z' => e = .returned (.int .i64 2) ∧ z' = z) := Lib.hid (fun z => size_calls 17 z (by decide))
    have hm : ((addr % 2 : Nat) : Int) = (addr : Int) % 2 := by omega
    have h1 := dec_nat_eq (addr % 2) 0
    have h2 : ((addr : Int) % 2 == 0) = decide (addr % 2 = 0) := by rw [← hm]; exact h1
    have h3 : (addr : Int).tmod 2 = (addr : Int) % 2 := by rw [Int.tmod_eq_emod_of_nonneg (by omega)]
    have HE := Lib.hid (show fitsP 17 addr = decide (addr % 2 = 0) from by unfold fitsP; simp [sizeP])
    clear hm h1
    generalize decide (addr % 2 = 0) = d at *
    go_enter Tryz.func141, Tryz.ntmps141
    go_wp2_with (fail)
    refine (S.out _).mono ?_
    rintro e z1 ⟨rfl, rfl⟩
    go_wp2_with (fail)
    go_ret
    exact ⟨by rw [HE.out]; rfl, rfl⟩
  · have S : Hid (∀ z : World, Calls Tryz.prog 140 #[.int .i64 18] z fun e z' => e = .returned (.int .i64 4) ∧ z' = z) := Lib.hid (fun z => size_calls 18 z (by decide))
    have hm : ((addr % 4 : Nat) : Int) = (addr : Int) % 4 := by omega
    have h1 := dec_nat_eq (addr % 4) 0
    have h2 : ((addr : Int) % 4 == 0) = decide (addr % 4 = 0) := by rw [← hm]; exact h1
    have h3 : (addr : Int).tmod 4 = (addr : Int) % 4 := by rw [Int.tmod_eq_emod_of_nonneg (by omega)]
    have HE := Lib.hid (show fitsP 18 addr = decide (addr % 4 = 0) from by unfold fitsP; simp [sizeP])
    clear hm h1
    generalize decide (addr % 4 = 0) = d at *
    go_enter Tryz.func141, Tryz.ntmps141
    go_wp2_with (fail)
    refine (S.out _).mono ?_
    rintro e z1 ⟨rfl, rfl⟩
    go_wp2_with (fail)
    go_ret
    exact ⟨by rw [HE.out]; rfl, rfl⟩
end Go.Proofs.YtmdjhahafjlebaaGreatDoor

namespace Go.Proofs.YtmdjhahafjlebaaGreatDoor
open Go.RowKit Go.Dio
set_option linter.unusedSimpArgs false
set_option linter.unusedVariables false

theorem r7taken5 (a b : Nat) : ∀ z : World, Calls Tryz.prog 130 #[.int .i64 5, .int .u32 (a : Int), .int .u32 (b : Int)] z fun e z' => e = .returned (.bool (takenP 5 a b)) ∧ z' = z := by
  have HE := Lib.hid (show takenP 5 a b = decide (a = b) from rfl)
  have h1 := dec_nat_eq a b
  generalize decide (a = b) = d at *
  intro z
  go_enter Tryz.func130, Tryz.ntmps130
  go_wp2_with (fail)
  go_ret
  exact ⟨by first | rfl | (rw [HE.out]; rfl), rfl⟩
theorem r7taken6 (a b : Nat) : ∀ z : World, Calls Tryz.prog 130 #[.int .i64 6, .int .u32 (a : Int), .int .u32 (b : Int)] z fun e z' => e = .returned (.bool (takenP 6 a b)) ∧ z' = z := by
  have HE := Lib.hid (show takenP 6 a b = decide (a ≠ b) from rfl)
  have h1 : ((a : Int) != (b : Int)) = decide (a ≠ b) := by rw [Bool.eq_iff_iff]; simp; omega
  generalize decide (a ≠ b) = d at *
  intro z
  go_enter Tryz.func130, Tryz.ntmps130
  go_wp2_with (fail)
  go_ret
  exact ⟨by first | rfl | (rw [HE.out]; rfl), rfl⟩
theorem r7taken7 (a b : Nat) (ha : a < 2 ^ 32) (hb : b < 2 ^ 32) : ∀ z : World, Calls Tryz.prog 130 #[.int .i64 7, .int .u32 (a : Int), .int .u32 (b : Int)] z fun e z' => e = .returned (.bool (takenP 7 a b)) ∧ z' = z := by
  have sa := wrap_s32 a ha
  have sb := wrap_s32 b hb
  have HE := Lib.hid (show takenP 7 a b = decide (s32 a < s32 b) from rfl)
  generalize s32 a = x at *
  generalize s32 b = y at *
  intro z
  go_enter Tryz.func130, Tryz.ntmps130
  go_wp2_with (fail)
  go_ret
  exact ⟨by first | rfl | (rw [HE.out]; rfl), rfl⟩
theorem r7taken8 (a b : Nat) (ha : a < 2 ^ 32) (hb : b < 2 ^ 32) : ∀ z : World, Calls Tryz.prog 130 #[.int .i64 8, .int .u32 (a : Int), .int .u32 (b : Int)] z fun e z' => e = .returned (.bool (takenP 8 a b)) ∧ z' = z := by
  have sa := wrap_s32 a ha
  have sb := wrap_s32 b hb
  have HE := Lib.hid (show takenP 8 a b = decide (s32 b ≤ s32 a) from rfl)
  generalize s32 a = x at *
  generalize s32 b = y at *
  intro z
  go_enter Tryz.func130, Tryz.ntmps130
  go_wp2_with (fail)
  go_ret
  exact ⟨by first | rfl | (rw [HE.out]; rfl), rfl⟩
theorem r7taken9 (a b : Nat) : ∀ z : World, Calls Tryz.prog 130 #[.int .i64 9, .int .u32 (a : Int), .int .u32 (b : Int)] z fun e z' => e = .returned (.bool (takenP 9 a b)) ∧ z' = z := by
  have HE := Lib.hid (show takenP 9 a b = decide (a < b) from rfl)
  have h1 := dec_nat_lt a b
  generalize hd : decide (a < b) = d at *
  intro z
  go_enter Tryz.func130, Tryz.ntmps130
  go_wp2_with (fail)
  go_ret
  exact ⟨by first | rfl | (rw [HE.out]; rfl), rfl⟩
theorem r7taken10 (a b : Nat) : ∀ z : World, Calls Tryz.prog 130 #[.int .i64 10, .int .u32 (a : Int), .int .u32 (b : Int)] z fun e z' => e = .returned (.bool (takenP 10 a b)) ∧ z' = z := by
  have HE := Lib.hid (show takenP 10 a b = decide (b ≤ a) from rfl)
  have h1 := dec_nat_le b a
  generalize hd : decide (b ≤ a) = d at *
  intro z
  go_enter Tryz.func130, Tryz.ntmps130
  go_wp2_with (fail)
  go_ret
  exact ⟨by first | rfl | (rw [HE.out]; rfl), rfl⟩
theorem r7taken_calls (op a b : Nat) (z : World) (ho : op ≤ 55) (ha : a < 2 ^ 32) (hb : b < 2 ^ 32) :
    Calls Tryz.prog 130 #[.int .i64 (op : Int), .int .u32 (a : Int), .int .u32 (b : Int)] z fun e z' => e = .returned (.bool (takenP op a b)) ∧ z' = z := by
  rcases (by omega : op = 5 ∨ op = 6 ∨ op = 7 ∨ op = 8 ∨ op = 9 ∨ op = 10 ∨ (op < 5 ∨ 10 < op)) with rfl | rfl | rfl | rfl | rfl | rfl | h
  · exact r7taken5 a b z
  · exact r7taken6 a b z
  · exact r7taken7 a b ha hb z
  · exact r7taken8 a b ha hb z
  · exact r7taken9 a b z
  · exact r7taken10 a b z
  · rw [takenP_no op a b h]
    have d5 : ((op : Int) == 5) = false := by rw [beq_eq_false_iff_ne]; omega
    have d6 : ((op : Int) == 6) = false := by rw [beq_eq_false_iff_ne]; omega
    have d7 : ((op : Int) == 7) = false := by rw [beq_eq_false_iff_ne]; omega
    have d8 : ((op : Int) == 8) = false := by rw [beq_eq_false_iff_ne]; omega
    have d9 : ((op : Int) == 9) = false := by rw [beq_eq_false_iff_ne]; omega
    have d10 : ((op : Int) == 10) = false := by rw [beq_eq_false_iff_ne]; omega
    clear h ho
    go_enter Tryz.func130, Tryz.ntmps130
    go_wp2_with (fail)
    go_ret
    exact ⟨rfl, rfl⟩
theorem r7size_calls (op : Nat) (z : World) (ho : op ≤ 55) :
    Calls Tryz.prog 96 #[.int .i64 (op : Int)] z fun e z' => e = .returned (.int .i64 ((sizeP op : Nat) : Int)) ∧ z' = z := by
  rcases (by omega : op = 11 ∨ op = 12 ∨ op = 13 ∨ op = 14 ∨ op = 15 ∨ op = 16 ∨ op = 17 ∨ op = 18 ∨ (op < 11 ∨ 18 < op)) with rfl | rfl | rfl | rfl | rfl | rfl | rfl | rfl | h
  iterate 8
    ·
      go_enter Tryz.func96, Tryz.ntmps96
      go_wp2_with (fail)
      go_ret
      exact ⟨rfl, rfl⟩
  rw [sizeP_no op h]
  have d11 : ((op : Int) == 11) = false := by rw [beq_eq_false_iff_ne]; omega
  have d12 : ((op : Int) == 12) = false := by rw [beq_eq_false_iff_ne]; omega
  have d13 : ((op : Int) == 13) = false := by rw [beq_eq_false_iff_ne]; omega
  have d14 : ((op : Int) == 14) = false := by rw [beq_eq_false_iff_ne]; omega
  have d15 : ((op : Int) == 15) = false := by rw [beq_eq_false_iff_ne]; omega
  have d16 : ((op : Int) == 16) = false := by rw [beq_eq_false_iff_ne]; omega
  have d17 : ((op : Int) == 17) = false := by rw [beq_eq_false_iff_ne]; omega
  have d18 : ((op : Int) == 18) = false := by rw [beq_eq_false_iff_ne]; omega
  clear h ho
  go_enter Tryz.func96, Tryz.ntmps96
  go_wp2_with (fail)
  go_ret
  exact ⟨rfl, rfl⟩
theorem r7fits_calls (op addr : Nat) (z : World) (ho : 11 ≤ op ∧ op ≤ 18) (ha : addr < 2 ^ 32) :
    Calls Tryz.prog 150 #[.int .i64 (op : Int), .int .u32 (addr : Int)] z fun e z' => e = .returned (.bool (fitsP op addr)) ∧ z' = z := by
  rcases (by omega : op = 11 ∨ op = 12 ∨ op = 13 ∨ op = 14 ∨ op = 15 ∨ op = 16 ∨ op = 17 ∨ op = 18) with rfl | rfl | rfl | rfl | rfl | rfl | rfl | rfl
  · have S : Hid (∀ z : World, Calls Tryz.prog 96 #[.int .i64 11] z fun e z' => e = .returned (.int .i64 1) ∧ z' = z) := Lib.hid (fun z => r7size_calls 11 z (by decide))
    have HE := Lib.hid (show fitsP 11 addr = true from by unfold fitsP; simp [sizeP, Nat.mod_one])
    go_enter Tryz.func150, Tryz.ntmps150
    go_wp2_with (fail)
    refine (S.out _).mono ?_
    rintro e z1 ⟨rfl, rfl⟩
    go_wp2_with (fail)
    refine (S.out _).mono ?_
    rintro e z1 ⟨rfl, rfl⟩
    go_wp2_with (fail)
    go_ret
    exact ⟨by rw [HE.out]; rfl, rfl⟩
  · have S : Hid (∀ z : World, Calls Tryz.prog 96 #[.int .i64 12] z fun e z' => e = .returned (.int .i64 2) ∧ z' = z) := Lib.hid (fun z => r7size_calls 12 z (by decide))
    have hm : ((addr % 2 : Nat) : Int) = (addr : Int) % 2 := by omega
    have h1 := dec_nat_eq (addr % 2) 0
    have h2 : ((addr : Int) % 2 == 0) = decide (addr % 2 = 0) := by rw [← hm]; exact h1
    have h3 : (addr : Int).tmod 2 = (addr : Int) % 2 := by rw [Int.tmod_eq_emod_of_nonneg (by omega)]
    have HE := Lib.hid (show fitsP 12 addr = decide (addr % 2 = 0) from by unfold fitsP; simp [sizeP])
    clear hm h1
    generalize decide (addr % 2 = 0) = d at *
    go_enter Tryz.func150, Tryz.ntmps150
    go_wp2_with (fail)
    refine (S.out _).mono ?_
    rintro e z1 ⟨rfl, rfl⟩
    go_wp2_with (fail)
    refine (S.out _).mono ?_
    rintro e z1 ⟨rfl, rfl⟩
    go_wp2_with (fail)
    go_ret
    exact ⟨by rw [HE.out]; rfl, rfl⟩
  · have S : Hid (∀ z : World, Calls Tryz.prog 96 #[.int .i64 13] z fun e z' => e = .returned (.int .i64 4) ∧ z' = z) := Lib.hid (fun z => r7size_calls 13 z (by decide))
    have hm : ((addr % 4 : Nat) : Int) = (addr : Int) % 4 := by omega
    have h1 := dec_nat_eq (addr % 4) 0
    have h2 : ((addr : Int) % 4 == 0) = decide (addr % 4 = 0) := by rw [← hm]; exact h1
    have h3 : (addr : Int).tmod 4 = (addr : Int) % 4 := by rw [Int.tmod_eq_emod_of_nonneg (by omega)]
    have HE := Lib.hid (show fitsP 13 addr = decide (addr % 4 = 0) from by unfold fitsP; simp [sizeP])
    clear hm h1
    generalize decide (addr % 4 = 0) = d at *
    go_enter Tryz.func150, Tryz.ntmps150
    go_wp2_with (fail)
    refine (S.out _).mono ?_
    rintro e z1 ⟨rfl, rfl⟩
    go_wp2_with (fail)
    refine (S.out _).mono ?_
    rintro e z1 ⟨rfl, rfl⟩
    go_wp2_with (fail)
    go_ret
    exact ⟨by rw [HE.out]; rfl, rfl⟩
  · have S : Hid (∀ z : World, Calls Tryz.prog 96 #[.int .i64 14] z fun e z' => e = .returned (.int .i64 1) ∧ z' = z) := Lib.hid (fun z => r7size_calls 14 z (by decide))
    have HE := Lib.hid (show fitsP 14 addr = true from by unfold fitsP; simp [sizeP, Nat.mod_one])
    go_enter Tryz.func150, Tryz.ntmps150
    go_wp2_with (fail)
    refine (S.out _).mono ?_
    rintro e z1 ⟨rfl, rfl⟩
    go_wp2_with (fail)
    refine (S.out _).mono ?_
    rintro e z1 ⟨rfl, rfl⟩
    go_wp2_with (fail)
    go_ret
    exact ⟨by rw [HE.out]; rfl, rfl⟩
  · have S : Hid (∀ z : World, Calls Tryz.prog 96 #[.int .i64 15] z fun e z' => e = .returned (.int .i64 2) ∧ z' = z) := Lib.hid (fun z => r7size_calls 15 z (by decide))
    have hm : ((addr % 2 : Nat) : Int) = (addr : Int) % 2 := by omega
    have h1 := dec_nat_eq (addr % 2) 0
    have h2 : ((addr : Int) % 2 == 0) = decide (addr % 2 = 0) := by rw [← hm]; exact h1
    have h3 : (addr : Int).tmod 2 = (addr : Int) % 2 := by rw [Int.tmod_eq_emod_of_nonneg (by omega)]
    have HE := Lib.hid (show fitsP 15 addr = decide (addr % 2 = 0) from by unfold fitsP; simp [sizeP])
    clear hm h1
    generalize decide (addr % 2 = 0) = d at *
    go_enter Tryz.func150, Tryz.ntmps150
    go_wp2_with (fail)
    refine (S.out _).mono ?_
    rintro e z1 ⟨rfl, rfl⟩
    go_wp2_with (fail)
    refine (S.out _).mono ?_
    rintro e z1 ⟨rfl, rfl⟩
    go_wp2_with (fail)
    go_ret
    exact ⟨by rw [HE.out]; rfl, rfl⟩
  · have S : Hid (∀ z : World, Calls Tryz.prog 96 #[.int .i64 16] z fun e z' => e = .returned (.int .i64 1) ∧ z' = z) := Lib.hid (fun z => r7size_calls 16 z (by decide))
    have HE := Lib.hid (show fitsP 16 addr = true from by unfold fitsP; simp [sizeP, Nat.mod_one])
    go_enter Tryz.func150, Tryz.ntmps150
    go_wp2_with (fail)
    refine (S.out _).mono ?_
    rintro e z1 ⟨rfl, rfl⟩
    go_wp2_with (fail)
    refine (S.out _).mono ?_
    rintro e z1 ⟨rfl, rfl⟩
    go_wp2_with (fail)
    go_ret
    exact ⟨by rw [HE.out]; rfl, rfl⟩
  · have S : Hid (∀ z : World, Calls Tryz.prog 96 #[.int .i64 17] z fun e z' => e = .returned (.int .i64 2) ∧ z' = z) := Lib.hid (fun z => r7size_calls 17 z (by decide))
    have hm : ((addr % 2 : Nat) : Int) = (addr : Int) % 2 := by omega
    have h1 := dec_nat_eq (addr % 2) 0
    have h2 : ((addr : Int) % 2 == 0) = decide (addr % 2 = 0) := by rw [← hm]; exact h1
    have h3 : (addr : Int).tmod 2 = (addr : Int) % 2 := by rw [Int.tmod_eq_emod_of_nonneg (by omega)]
    have HE := Lib.hid (show fitsP 17 addr = decide (addr % 2 = 0) from by unfold fitsP; simp [sizeP])
    clear hm h1
    generalize decide (addr % 2 = 0) = d at *
    go_enter Tryz.func150, Tryz.ntmps150
    go_wp2_with (fail)
    refine (S.out _).mono ?_
    rintro e z1 ⟨rfl, rfl⟩
    go_wp2_with (fail)
    refine (S.out _).mono ?_
    rintro e z1 ⟨rfl, rfl⟩
    go_wp2_with (fail)
    go_ret
    exact ⟨by rw [HE.out]; rfl, rfl⟩
  · have S : Hid (∀ z : World, Calls Tryz.prog 96 #[.int .i64 18] z fun e z' => e = .returned (.int .i64 4) ∧ z' = z) := Lib.hid (fun z => r7size_calls 18 z (by decide))
    have hm : ((addr % 4 : Nat) : Int) = (addr : Int) % 4 := by omega
    have h1 := dec_nat_eq (addr % 4) 0
    have h2 : ((addr : Int) % 4 == 0) = decide (addr % 4 = 0) := by rw [← hm]; exact h1
    have h3 : (addr : Int).tmod 4 = (addr : Int) % 4 := by rw [Int.tmod_eq_emod_of_nonneg (by omega)]
    have HE := Lib.hid (show fitsP 18 addr = decide (addr % 4 = 0) from by unfold fitsP; simp [sizeP])
    clear hm h1
    generalize decide (addr % 4 = 0) = d at *
    go_enter Tryz.func150, Tryz.ntmps150
    go_wp2_with (fail)
    refine (S.out _).mono ?_
    rintro e z1 ⟨rfl, rfl⟩
    go_wp2_with (fail)
    refine (S.out _).mono ?_
    rintro e z1 ⟨rfl, rfl⟩
    go_wp2_with (fail)
    go_ret
    exact ⟨by rw [HE.out]; rfl, rfl⟩
end Go.Proofs.YtmdjhahafjlebaaGreatDoor
