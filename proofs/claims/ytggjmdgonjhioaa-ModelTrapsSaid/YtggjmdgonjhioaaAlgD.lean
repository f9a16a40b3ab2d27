/- Bytes of words: loads, the code's: the walk. -/
import Derived.Test.YtggjmdgonjhioaaAlgC
namespace Go.Proofs.Ytggjmdgonjhioaa
open Go.RowKit Go.Dio
set_option linter.unusedSimpArgs false
set_option linter.unusedVariables false

theorem sx8_lo (n : Nat) : -128 ≤ sx n 8 ∧ sx n 8 ≤ 127 := by unfold sx; split <;> omega
theorem sx16_lo (n : Nat) : -32768 ≤ sx n 16 ∧ sx n 16 ≤ 32767 := by unfold sx; split <;> omega
theorem wrap_i8' (n : Nat) : IntKind.i8.wrap (n : Int) = sx n 8 := by
  simp only [IntKind.wrap, IntKind.bits, IntKind.signed]
  show (if (true && decide ((n : Int) % 256 ≥ 128)) = true then (n : Int) % 256 - 256 else (n : Int) % 256) = (if n % 256 < 128 then ((n % 256 : Nat) : Int) else ((n % 256 : Nat) : Int) - 256)
  by_cases hh : n % 256 < 128
  · rw [if_pos hh, if_neg (by simp; omega)]; omega
  · rw [if_neg hh, if_pos (by simp; omega)]; omega
theorem wrap_i16' (n : Nat) : IntKind.i16.wrap (n : Int) = sx n 16 := by
  simp only [IntKind.wrap, IntKind.bits, IntKind.signed]
  show (if (true && decide ((n : Int) % 65536 ≥ 32768)) = true then (n : Int) % 65536 - 65536 else (n : Int) % 65536) = (if n % 65536 < 32768 then ((n % 65536 : Nat) : Int) else ((n % 65536 : Nat) : Int) - 65536)
  by_cases hh : n % 65536 < 32768
  · rw [if_pos hh, if_neg (by simp; omega)]; omega
  · rw [if_neg hh, if_pos (by simp; omega)]; omega
theorem load_calls (op addr word : Nat) (z : World) (ho : 11 ≤ op ∧ op ≤ 15) (ha : addr < 2 ^ 32) (hw : word < 2 ^ 32) (hf : fitsP op addr = true) :
    Calls Try.prog 76 #[.int .i64 (op : Int), .int .u32 (addr : Int), .int .u32 (word : Int)] z fun e z' => e = .returned (.int .u32 ((loadP op addr word : Nat) : Int)) ∧ z' = z := by
  rcases (by omega : op = 11 ∨ op = 12 ∨ op = 13 ∨ op = 14 ∨ op = 15) with rfl | rfl | rfl | rfl | rfl
  · rcases (by omega : addr % 4 = 0 ∨ addr % 4 = 1 ∨ addr % 4 = 2 ∨ addr % 4 = 3) with hk | hk | hk | hk
    · skip
      have HE := Lib.hid (show loadP 11 addr word = u32 (sx (word / 2 ^ 0) 8) from by unfold loadP; rw [if_neg (by rw [hf]; decide), hk]; rfl)
      rw [Nat.pow_zero, Nat.div_one] at HE
      have hy : word < 2 ^ 32 := hw
      generalize word = y at *
      have l4 : bits .and .u32 (addr : Int) 3 = 0 := by rw [low4 addr ha, hk]; rfl
      have I : Hid (∀ z : World, Calls Try.prog 83 #[.int .i64 11] z fun e z' => e = .returned (.bool false) ∧ z' = z) := Lib.hid (fun z => isst_calls 11 z (by decide))
      have F : Hid (∀ z : World, Calls Try.prog 73 #[.int .i64 11, .int .u32 (addr : Int)] z fun e z' => e = .returned (.bool true) ∧ z' = z) := Lib.hid (fun z => by have := fits_calls 11 addr z (by decide) ha; rwa [hf] at this)
      have v1 := wrap_i8' y
      have v2 := sx8_lo y
      have v4 := wrap_u32 (sx y 8)
      have v5 := mod_u32 (sx y 8)
      generalize u32 (sx y 8) = r at *
      generalize sx y 8 = x at *
      have v3 : IntKind.i32.wrap x = x := by rw [IntKind.wrap_i32]; omega
      clear hf hk
      go_enter Try.func76, Try.ntmps76
      go_wp2_with (fail)
      refine (F.out _).mono ?_
      rintro e z1 ⟨rfl, rfl⟩
      go_wp2_with (fail)
      refine (I.out _).mono ?_
      rintro e z1 ⟨rfl, rfl⟩
      go_wp2_with (fail)
      go_ret
      exact ⟨by rw [HE.out]; rfl, rfl⟩
    · skip
      have HE := Lib.hid (show loadP 11 addr word = u32 (sx (word / 2 ^ 8) 8) from by unfold loadP; rw [if_neg (by rw [hf]; decide), hk]; rfl)
      rw [show (2 : Nat) ^ 8 = 256 by decide] at HE
      have hq : (word : Int) / 256 = ((word / 256 : Nat) : Int) := by omega
      have hy : word / 256 < 2 ^ 32 := Nat.lt_of_le_of_lt (Nat.div_le_self _ _) hw
      generalize word / 256 = y at *
      have l4 : bits .and .u32 (addr : Int) 3 = 1 := by rw [low4 addr ha, hk]; rfl
      have I : Hid (∀ z : World, Calls Try.prog 83 #[.int .i64 11] z fun e z' => e = .returned (.bool false) ∧ z' = z) := Lib.hid (fun z => isst_calls 11 z (by decide))
      have F : Hid (∀ z : World, Calls Try.prog 73 #[.int .i64 11, .int .u32 (addr : Int)] z fun e z' => e = .returned (.bool true) ∧ z' = z) := Lib.hid (fun z => by have := fits_calls 11 addr z (by decide) ha; rwa [hf] at this)
      have v1 := wrap_i8' y
      have v2 := sx8_lo y
      have v4 := wrap_u32 (sx y 8)
      have v5 := mod_u32 (sx y 8)
      generalize u32 (sx y 8) = r at *
      generalize sx y 8 = x at *
      have v3 : IntKind.i32.wrap x = x := by rw [IntKind.wrap_i32]; omega
      clear hf hk
      go_enter Try.func76, Try.ntmps76
      go_wp2_with (fail)
      refine (F.out _).mono ?_
      rintro e z1 ⟨rfl, rfl⟩
      go_wp2_with (fail)
      refine (I.out _).mono ?_
      rintro e z1 ⟨rfl, rfl⟩
      go_wp2_with (fail)
      go_ret
      exact ⟨by rw [HE.out]; rfl, rfl⟩
    · skip
      have HE := Lib.hid (show loadP 11 addr word = u32 (sx (word / 2 ^ 16) 8) from by unfold loadP; rw [if_neg (by rw [hf]; decide), hk]; rfl)
      rw [show (2 : Nat) ^ 16 = 65536 by decide] at HE
      have hq : (word : Int) / 65536 = ((word / 65536 : Nat) : Int) := by omega
      have hy : word / 65536 < 2 ^ 32 := Nat.lt_of_le_of_lt (Nat.div_le_self _ _) hw
      generalize word / 65536 = y at *
      have l4 : bits .and .u32 (addr : Int) 3 = 2 := by rw [low4 addr ha, hk]; rfl
      have I : Hid (∀ z : World, Calls Try.prog 83 #[.int .i64 11] z fun e z' => e = .returned (.bool false) ∧ z' = z) := Lib.hid (fun z => isst_calls 11 z (by decide))
      have F : Hid (∀ z : World, Calls Try.prog 73 #[.int .i64 11, .int .u32 (addr : Int)] z fun e z' => e = .returned (.bool true) ∧ z' = z) := Lib.hid (fun z => by have := fits_calls 11 addr z (by decide) ha; rwa [hf] at this)
      have v1 := wrap_i8' y
      have v2 := sx8_lo y
      have v4 := wrap_u32 (sx y 8)
      have v5 := mod_u32 (sx y 8)
      generalize u32 (sx y 8) = r at *
      generalize sx y 8 = x at *
      have v3 : IntKind.i32.wrap x = x := by rw [IntKind.wrap_i32]; omega
      clear hf hk
      go_enter Try.func76, Try.ntmps76
      go_wp2_with (fail)
      refine (F.out _).mono ?_
      rintro e z1 ⟨rfl, rfl⟩
      go_wp2_with (fail)
      refine (I.out _).mono ?_
      rintro e z1 ⟨rfl, rfl⟩
      go_wp2_with (fail)
      go_ret
      exact ⟨by rw [HE.out]; rfl, rfl⟩
    · skip
      have HE := Lib.hid (show loadP 11 addr word = u32 (sx (word / 2 ^ 24) 8) from by unfold loadP; rw [if_neg (by rw [hf]; decide), hk]; rfl)
      rw [show (2 : Nat) ^ 24 = 16777216 by decide] at HE
      have hq : (word : Int) / 16777216 = ((word / 16777216 : Nat) : Int) := by omega
      have hy : word / 16777216 < 2 ^ 32 := Nat.lt_of_le_of_lt (Nat.div_le_self _ _) hw
      generalize word / 16777216 = y at *
      have l4 : bits .and .u32 (addr : Int) 3 = 3 := by rw [low4 addr ha, hk]; rfl
      have I : Hid (∀ z : World, Calls Try.prog 83 #[.int .i64 11] z fun e z' => e = .returned (.bool false) ∧ z' = z) := Lib.hid (fun z => isst_calls 11 z (by decide))
      have F : Hid (∀ z : World, Calls Try.prog 73 #[.int .i64 11, .int .u32 (addr : Int)] z fun e z' => e = .returned (.bool true) ∧ z' = z) := Lib.hid (fun z => by have := fits_calls 11 addr z (by decide) ha; rwa [hf] at this)
      have v1 := wrap_i8' y
      have v2 := sx8_lo y
      have v4 := wrap_u32 (sx y 8)
      have v5 := mod_u32 (sx y 8)
      generalize u32 (sx y 8) = r at *
      generalize sx y 8 = x at *
      have v3 : IntKind.i32.wrap x = x := by rw [IntKind.wrap_i32]; omega
      clear hf hk
      go_enter Try.func76, Try.ntmps76
      go_wp2_with (fail)
      refine (F.out _).mono ?_
      rintro e z1 ⟨rfl, rfl⟩
      go_wp2_with (fail)
      refine (I.out _).mono ?_
      rintro e z1 ⟨rfl, rfl⟩
      go_wp2_with (fail)
      go_ret
      exact ⟨by rw [HE.out]; rfl, rfl⟩
  · have h2 := fits2 hf rfl
    rcases (by omega : addr % 4 = 0 ∨ addr % 4 = 2) with hk | hk
    · skip
      have HE := Lib.hid (show loadP 12 addr word = u32 (sx (word / 2 ^ 0) 16) from by unfold loadP; rw [if_neg (by rw [hf]; decide), hk]; rfl)
      rw [Nat.pow_zero, Nat.div_one] at HE
      have hy : word < 2 ^ 32 := hw
      generalize word = y at *
      have l4 : bits .and .u32 (addr : Int) 3 = 0 := by rw [low4 addr ha, hk]; rfl
      have I : Hid (∀ z : World, Calls Try.prog 83 #[.int .i64 12] z fun e z' => e = .returned (.bool false) ∧ z' = z) := Lib.hid (fun z => isst_calls 12 z (by decide))
      have F : Hid (∀ z : World, Calls Try.prog 73 #[.int .i64 12, .int .u32 (addr : Int)] z fun e z' => e = .returned (.bool true) ∧ z' = z) := Lib.hid (fun z => by have := fits_calls 12 addr z (by decide) ha; rwa [hf] at this)
      have v1 := wrap_i16' y
      have v2 := sx16_lo y
      have v4 := wrap_u32 (sx y 16)
      have v5 := mod_u32 (sx y 16)
      generalize u32 (sx y 16) = r at *
      generalize sx y 16 = x at *
      have v3 : IntKind.i32.wrap x = x := by rw [IntKind.wrap_i32]; omega
      clear hf hk
      go_enter Try.func76, Try.ntmps76
      go_wp2_with (fail)
      refine (F.out _).mono ?_
      rintro e z1 ⟨rfl, rfl⟩
      go_wp2_with (fail)
      refine (I.out _).mono ?_
      rintro e z1 ⟨rfl, rfl⟩
      go_wp2_with (fail)
      go_ret
      exact ⟨by rw [HE.out]; rfl, rfl⟩
    · skip
      have HE := Lib.hid (show loadP 12 addr word = u32 (sx (word / 2 ^ 16) 16) from by unfold loadP; rw [if_neg (by rw [hf]; decide), hk]; rfl)
      rw [show (2 : Nat) ^ 16 = 65536 by decide] at HE
      have hq : (word : Int) / 65536 = ((word / 65536 : Nat) : Int) := by omega
      have hy : word / 65536 < 2 ^ 32 := Nat.lt_of_le_of_lt (Nat.div_le_self _ _) hw
      generalize word / 65536 = y at *
      have l4 : bits .and .u32 (addr : Int) 3 = 2 := by rw [low4 addr ha, hk]; rfl
      have I : Hid (∀ z : World, Calls Try.prog 83 #[.int .i64 12] z fun e z' => e = .returned (.bool false) ∧ z' = z) := Lib.hid (fun z => isst_calls 12 z (by decide))
      have F : Hid (∀ z : World, Calls Try.prog 73 #[.int .i64 12, .int .u32 (addr : Int)] z fun e z' => e = .returned (.bool true) ∧ z' = z) := Lib.hid (fun z => by have := fits_calls 12 addr z (by decide) ha; rwa [hf] at this)
      have v1 := wrap_i16' y
      have v2 := sx16_lo y
      have v4 := wrap_u32 (sx y 16)
      have v5 := mod_u32 (sx y 16)
      generalize u32 (sx y 16) = r at *
      generalize sx y 16 = x at *
      have v3 : IntKind.i32.wrap x = x := by rw [IntKind.wrap_i32]; omega
      clear hf hk
      go_enter Try.func76, Try.ntmps76
      go_wp2_with (fail)
      refine (F.out _).mono ?_
      rintro e z1 ⟨rfl, rfl⟩
      go_wp2_with (fail)
      refine (I.out _).mono ?_
      rintro e z1 ⟨rfl, rfl⟩
      go_wp2_with (fail)
      go_ret
      exact ⟨by rw [HE.out]; rfl, rfl⟩
  · have hk := fits4 hf rfl
    have HE := Lib.hid (show loadP 13 addr word = word / 2 ^ 0 from by unfold loadP; rw [if_neg (by rw [hf]; decide), hk]; rfl)
    rw [Nat.pow_zero, Nat.div_one] at HE
    have hy : word < 2 ^ 32 := hw
    generalize word = y at *
    have l4 : bits .and .u32 (addr : Int) 3 = 0 := by rw [low4 addr ha, hk]; rfl
    have I : Hid (∀ z : World, Calls Try.prog 83 #[.int .i64 13] z fun e z' => e = .returned (.bool false) ∧ z' = z) := Lib.hid (fun z => isst_calls 13 z (by decide))
    have F : Hid (∀ z : World, Calls Try.prog 73 #[.int .i64 13, .int .u32 (addr : Int)] z fun e z' => e = .returned (.bool true) ∧ z' = z) := Lib.hid (fun z => by have := fits_calls 13 addr z (by decide) ha; rwa [hf] at this)
    clear hf hk
    go_enter Try.func76, Try.ntmps76
    go_wp2_with (fail)
    refine (F.out _).mono ?_
    rintro e z1 ⟨rfl, rfl⟩
    go_wp2_with (fail)
    refine (I.out _).mono ?_
    rintro e z1 ⟨rfl, rfl⟩
    go_wp2_with (fail)
    go_ret
    exact ⟨by rw [HE.out]; rfl, rfl⟩
  · rcases (by omega : addr % 4 = 0 ∨ addr % 4 = 1 ∨ addr % 4 = 2 ∨ addr % 4 = 3) with hk | hk | hk | hk
    · skip
      have HE := Lib.hid (show loadP 14 addr word = word / 2 ^ 0 % 256 from by unfold loadP; rw [if_neg (by rw [hf]; decide), hk]; rfl)
      rw [Nat.pow_zero, Nat.div_one] at HE
      have hy : word < 2 ^ 32 := hw
      generalize word = y at *
      have l4 : bits .and .u32 (addr : Int) 3 = 0 := by rw [low4 addr ha, hk]; rfl
      have I : Hid (∀ z : World, Calls Try.prog 83 #[.int .i64 14] z fun e z' => e = .returned (.bool false) ∧ z' = z) := Lib.hid (fun z => isst_calls 14 z (by decide))
      have F : Hid (∀ z : World, Calls Try.prog 73 #[.int .i64 14, .int .u32 (addr : Int)] z fun e z' => e = .returned (.bool true) ∧ z' = z) := Lib.hid (fun z => by have := fits_calls 14 addr z (by decide) ha; rwa [hf] at this)
      have v1 : bits .and .u32 (y : Int) 255 = ((y % 256 : Nat) : Int) := lo_and y 8 hy (by decide)
      generalize y % 256 = r at *
      clear hf hk
      go_enter Try.func76, Try.ntmps76
      go_wp2_with (fail)
      refine (F.out _).mono ?_
      rintro e z1 ⟨rfl, rfl⟩
      go_wp2_with (fail)
      refine (I.out _).mono ?_
      rintro e z1 ⟨rfl, rfl⟩
      go_wp2_with (fail)
      go_ret
      exact ⟨by rw [HE.out]; rfl, rfl⟩
    · skip
      have HE := Lib.hid (show loadP 14 addr word = word / 2 ^ 8 % 256 from by unfold loadP; rw [if_neg (by rw [hf]; decide), hk]; rfl)
      rw [show (2 : Nat) ^ 8 = 256 by decide] at HE
      have hq : (word : Int) / 256 = ((word / 256 : Nat) : Int) := by omega
      have hy : word / 256 < 2 ^ 32 := Nat.lt_of_le_of_lt (Nat.div_le_self _ _) hw
      generalize word / 256 = y at *
      have l4 : bits .and .u32 (addr : Int) 3 = 1 := by rw [low4 addr ha, hk]; rfl
      have I : Hid (∀ z : World, Calls Try.prog 83 #[.int .i64 14] z fun e z' => e = .returned (.bool false) ∧ z' = z) := Lib.hid (fun z => isst_calls 14 z (by decide))
      have F : Hid (∀ z : World, Calls Try.prog 73 #[.int .i64 14, .int .u32 (addr : Int)] z fun e z' => e = .returned (.bool true) ∧ z' = z) := Lib.hid (fun z => by have := fits_calls 14 addr z (by decide) ha; rwa [hf] at this)
      have v1 : bits .and .u32 (y : Int) 255 = ((y % 256 : Nat) : Int) := lo_and y 8 hy (by decide)
      generalize y % 256 = r at *
      clear hf hk
      go_enter Try.func76, Try.ntmps76
      go_wp2_with (fail)
      refine (F.out _).mono ?_
      rintro e z1 ⟨rfl, rfl⟩
      go_wp2_with (fail)
      refine (I.out _).mono ?_
      rintro e z1 ⟨rfl, rfl⟩
      go_wp2_with (fail)
      go_ret
      exact ⟨by rw [HE.out]; rfl, rfl⟩
    · skip
      have HE := Lib.hid (show loadP 14 addr word = word / 2 ^ 16 % 256 from by unfold loadP; rw [if_neg (by rw [hf]; decide), hk]; rfl)
      rw [show (2 : Nat) ^ 16 = 65536 by decide] at HE
      have hq : (word : Int) / 65536 = ((word / 65536 : Nat) : Int) := by omega
      have hy : word / 65536 < 2 ^ 32 := Nat.lt_of_le_of_lt (Nat.div_le_self _ _) hw
      generalize word / 65536 = y at *
      have l4 : bits .and .u32 (addr : Int) 3 = 2 := by rw [low4 addr ha, hk]; rfl
      have I : Hid (∀ z : World, Calls Try.prog 83 #[.int .i64 14] z fun e z' => e = .returned (.bool false) ∧ z' = z) := Lib.hid (fun z => isst_calls 14 z (by decide))
      have F : Hid (∀ z : World, Calls Try.prog 73 #[.int .i64 14, .int .u32 (addr : Int)] z fun e z' => e = .returned (.bool true) ∧ z' = z) := Lib.hid (fun z => by have := fits_calls 14 addr z (by decide) ha; rwa [hf] at this)
      have v1 : bits .and .u32 (y : Int) 255 = ((y % 256 : Nat) : Int) := lo_and y 8 hy (by decide)
      generalize y % 256 = r at *
      clear hf hk
      go_enter Try.func76, Try.ntmps76
      go_wp2_with (fail)
      refine (F.out _).mono ?_
      rintro e z1 ⟨rfl, rfl⟩
      go_wp2_with (fail)
      refine (I.out _).mono ?_
      rintro e z1 ⟨rfl, rfl⟩
      go_wp2_with (fail)
      go_ret
      exact ⟨by rw [HE.out]; rfl, rfl⟩
    · skip
      have HE := Lib.hid (show loadP 14 addr word = word / 2 ^ 24 % 256 from by unfold loadP; rw [if_neg (by rw [hf]; decide), hk]; rfl)
      rw [show (2 : Nat) ^ 24 = 16777216 by decide] at HE
      have hq : (word : Int) / 16777216 = ((word / 16777216 : Nat) : Int) := by omega
      have hy : word / 16777216 < 2 ^ 32 := Nat.lt_of_le_of_lt (Nat.div_le_self _ _) hw
      generalize word / 16777216 = y at *
      have l4 : bits .and .u32 (addr : Int) 3 = 3 := by rw [low4 addr ha, hk]; rfl
      have I : Hid (∀ z : World, Calls Try.prog 83 #[.int .i64 14] z fun e z' => e = .returned (.bool false) ∧ z' = z) := Lib.hid (fun z => isst_calls 14 z (by decide))
      have F : Hid (∀ z : World, Calls Try.prog 73 #[.int .i64 14, .int .u32 (addr : Int)] z fun e z' => e = .returned (.bool true) ∧ z' = z) := Lib.hid (fun z => by have := fits_calls 14 addr z (by decide) ha; rwa [hf] at this)
      have v1 : bits .and .u32 (y : Int) 255 = ((y % 256 : Nat) : Int) := lo_and y 8 hy (by decide)
      generalize y % 256 = r at *
      clear hf hk
      go_enter Try.func76, Try.ntmps76
      go_wp2_with (fail)
      refine (F.out _).mono ?_
      rintro e z1 ⟨rfl, rfl⟩
      go_wp2_with (fail)
      refine (I.out _).mono ?_
      rintro e z1 ⟨rfl, rfl⟩
      go_wp2_with (fail)
      go_ret
      exact ⟨by rw [HE.out]; rfl, rfl⟩
  · have h2 := fits2 hf rfl
    rcases (by omega : addr % 4 = 0 ∨ addr % 4 = 2) with hk | hk
    · skip
      have HE := Lib.hid (show loadP 15 addr word = word / 2 ^ 0 % 65536 from by unfold loadP; rw [if_neg (by rw [hf]; decide), hk]; rfl)
      rw [Nat.pow_zero, Nat.div_one] at HE
      have hy : word < 2 ^ 32 := hw
      generalize word = y at *
      have l4 : bits .and .u32 (addr : Int) 3 = 0 := by rw [low4 addr ha, hk]; rfl
      have I : Hid (∀ z : World, Calls Try.prog 83 #[.int .i64 15] z fun e z' => e = .returned (.bool false) ∧ z' = z) := Lib.hid (fun z => isst_calls 15 z (by decide))
      have F : Hid (∀ z : World, Calls Try.prog 73 #[.int .i64 15, .int .u32 (addr : Int)] z fun e z' => e = .returned (.bool true) ∧ z' = z) := Lib.hid (fun z => by have := fits_calls 15 addr z (by decide) ha; rwa [hf] at this)
      have v1 : bits .and .u32 (y : Int) 65535 = ((y % 65536 : Nat) : Int) := lo_and y 16 hy (by decide)
      generalize y % 65536 = r at *
      clear hf hk
      go_enter Try.func76, Try.ntmps76
      go_wp2_with (fail)
      refine (F.out _).mono ?_
      rintro e z1 ⟨rfl, rfl⟩
      go_wp2_with (fail)
      refine (I.out _).mono ?_
      rintro e z1 ⟨rfl, rfl⟩
      go_wp2_with (fail)
      go_ret
      exact ⟨by rw [HE.out]; rfl, rfl⟩
    · skip
      have HE := Lib.hid (show loadP 15 addr word = word / 2 ^ 16 % 65536 from by unfold loadP; rw [if_neg (by rw [hf]; decide), hk]; rfl)
      rw [show (2 : Nat) ^ 16 = 65536 by decide] at HE
      have hq : (word : Int) / 65536 = ((word / 65536 : Nat) : Int) := by omega
      have hy : word / 65536 < 2 ^ 32 := Nat.lt_of_le_of_lt (Nat.div_le_self _ _) hw
      generalize word / 65536 = y at *
      have l4 : bits .and .u32 (addr : Int) 3 = 2 := by rw [low4 addr ha, hk]; rfl
      have I : Hid (∀ z : World, Calls Try.prog 83 #[.int .i64 15] z fun e z' => e = .returned (.bool false) ∧ z' = z) := Lib.hid (fun z => isst_calls 15 z (by decide))
      have F : Hid (∀ z : World, Calls Try.prog 73 #[.int .i64 15, .int .u32 (addr : Int)] z fun e z' => e = .returned (.bool true) ∧ z' = z) := Lib.hid (fun z => by have := fits_calls 15 addr z (by decide) ha; rwa [hf] at this)
      have v1 : bits .and .u32 (y : Int) 65535 = ((y % 65536 : Nat) : Int) := lo_and y 16 hy (by decide)
      generalize y % 65536 = r at *
      clear hf hk
      go_enter Try.func76, Try.ntmps76
      go_wp2_with (fail)
      refine (F.out _).mono ?_
      rintro e z1 ⟨rfl, rfl⟩
      go_wp2_with (fail)
      refine (I.out _).mono ?_
      rintro e z1 ⟨rfl, rfl⟩
      go_wp2_with (fail)
      go_ret
      exact ⟨by rw [HE.out]; rfl, rfl⟩
end Go.Proofs.Ytggjmdgonjhioaa
