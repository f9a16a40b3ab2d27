/- Bytes of words: loads and stores, the code's: the walks. -/
import Derived.Test.YtggjmdgonjhioaaAlgB
namespace Go.Proofs.Ytggjmdgonjhioaa
open Go.RowKit Go.Dio
set_option linter.unusedSimpArgs false
set_option linter.unusedVariables false

theorem low4 (a : Nat) (ha : a < 2 ^ 32) : bits .and .u32 (a : Int) 3 = ((a % 4 : Nat) : Int) := lo_and a 2 ha (by decide)
theorem fits2 {op addr : Nat} (h : fitsP op addr = true) (hs : sizeP op = 2) : addr % 2 = 0 := by unfold fitsP at h; rw [hs] at h; simpa using h
theorem fits4 {op addr : Nat} (h : fitsP op addr = true) (hs : sizeP op = 4) : addr % 4 = 0 := by unfold fitsP at h; rw [hs] at h; simpa using h
theorem u32_one (n : Nat) (hn : n < 2 ^ 32) : u32 ((n : Int) * 2 ^ 0) = n := by rw [Int.pow_zero, Int.mul_one]; exact u32_id hn
theorem store_calls (op addr n : Nat) (z : World) (ho : 16 ≤ op ∧ op ≤ 18) (ha : addr < 2 ^ 32) (hn : n < 2 ^ 32) (hf : fitsP op addr = true) :
    Calls Try.prog 77 #[.int .i64 (op : Int), .int .u32 (addr : Int), .int .u32 (n : Int)] z fun e z' => e = .returned (.tuple #[.int .u32 ((storeD op addr n : Nat) : Int), .int .i64 ((storeM op addr : Nat) : Int)]) ∧ z' = z := by
  rcases (by omega : op = 16 ∨ op = 17 ∨ op = 18) with rfl | rfl | rfl
  · rcases (by omega : addr % 4 = 0 ∨ addr % 4 = 1 ∨ addr % 4 = 2 ∨ addr % 4 = 3) with hk | hk | hk | hk
    · have HD := Lib.hid (show storeD 16 addr n = n % 2 ^ 8 * 2 ^ 0 from by unfold storeD; rw [if_neg (by rw [hf]; decide), hk]; rfl)
      have HM := Lib.hid (show storeM 16 addr = 1 from by unfold storeM; rw [if_neg (by rw [hf]; decide), hk]; rfl)
      have HG := Lib.hid (show mrg 0 n 1 = n % 2 ^ 8 * 2 ^ 0 from by have := mrg_1_0 n hn; rwa [u32_one n hn] at this)
      have l4 : bits .and .u32 (addr : Int) 3 = 0 := by rw [low4 addr ha, hk]; rfl
      have S : Hid (∀ z : World, Calls Try.prog 72 #[.int .i64 16] z fun e z' => e = .returned (.int .i64 1) ∧ z' = z) := Lib.hid (fun z => size_calls 16 z (by decide))
      have I : Hid (∀ z : World, Calls Try.prog 83 #[.int .i64 16] z fun e z' => e = .returned (.bool true) ∧ z' = z) := Lib.hid (fun z => isst_calls 16 z (by decide))
      have F : Hid (∀ z : World, Calls Try.prog 73 #[.int .i64 16, .int .u32 (addr : Int)] z fun e z' => e = .returned (.bool true) ∧ z' = z) := Lib.hid (fun z => by have := fits_calls 16 addr z (by decide) ha; rwa [hf] at this)
      clear hf hk
      go_enter Try.func77, Try.ntmps77
      go_wp2_with (fail)
      refine (F.out _).mono ?_
      rintro e z1 ⟨rfl, rfl⟩
      go_wp2_with (fail)
      refine (I.out _).mono ?_
      rintro e z1 ⟨rfl, rfl⟩
      go_wp2_with (fail)
      refine (S.out _).mono ?_
      rintro e z1 ⟨rfl, rfl⟩
      go_wp2_with (fail)
      refine (Merge_calls 0 n 1 _ (by decide) hn).mono ?_
      rintro e z1 ⟨rfl, rfl⟩
      go_wp2_with (fail)
      go_ret2
      exact ⟨by rw [HD.out, HM.out, HG.out]; rfl, rfl⟩
    · have HD := Lib.hid (show storeD 16 addr n = n % 2 ^ 8 * 2 ^ 8 from by unfold storeD; rw [if_neg (by rw [hf]; decide), hk]; rfl)
      have HM := Lib.hid (show storeM 16 addr = 2 from by unfold storeM; rw [if_neg (by rw [hf]; decide), hk]; rfl)
      have HG := Lib.hid (mrg_1_1 n hn)
      have l4 : bits .and .u32 (addr : Int) 3 = 1 := by rw [low4 addr ha, hk]; rfl
      have S : Hid (∀ z : World, Calls Try.prog 72 #[.int .i64 16] z fun e z' => e = .returned (.int .i64 1) ∧ z' = z) := Lib.hid (fun z => size_calls 16 z (by decide))
      have I : Hid (∀ z : World, Calls Try.prog 83 #[.int .i64 16] z fun e z' => e = .returned (.bool true) ∧ z' = z) := Lib.hid (fun z => isst_calls 16 z (by decide))
      have F : Hid (∀ z : World, Calls Try.prog 73 #[.int .i64 16, .int .u32 (addr : Int)] z fun e z' => e = .returned (.bool true) ∧ z' = z) := Lib.hid (fun z => by have := fits_calls 16 addr z (by decide) ha; rwa [hf] at this)
      have hD := u32_lt ((n : Int) * 2 ^ 8)
      have v1 : IntKind.u32.wrap ((n : Int) * 256) = ((u32 ((n : Int) * 2 ^ 8) : Nat) : Int) := wrap_u32 _
      have v2 : ((n : Int) * 256) % 4294967296 = ((u32 ((n : Int) * 2 ^ 8) : Nat) : Int) := mod_u32 _
      generalize u32 ((n : Int) * 2 ^ 8) = D at *
      clear hf hk
      go_enter Try.func77, Try.ntmps77
      go_wp2_with (fail)
      refine (F.out _).mono ?_
      rintro e z1 ⟨rfl, rfl⟩
      go_wp2_with (fail)
      refine (I.out _).mono ?_
      rintro e z1 ⟨rfl, rfl⟩
      go_wp2_with (fail)
      refine (S.out _).mono ?_
      rintro e z1 ⟨rfl, rfl⟩
      go_wp2_with (fail)
      refine (Merge_calls 0 D 2 _ (by decide) hD).mono ?_
      rintro e z1 ⟨rfl, rfl⟩
      go_wp2_with (fail)
      go_ret2
      exact ⟨by rw [HD.out, HM.out, HG.out]; rfl, rfl⟩
    · have HD := Lib.hid (show storeD 16 addr n = n % 2 ^ 8 * 2 ^ 16 from by unfold storeD; rw [if_neg (by rw [hf]; decide), hk]; rfl)
      have HM := Lib.hid (show storeM 16 addr = 4 from by unfold storeM; rw [if_neg (by rw [hf]; decide), hk]; rfl)
      have HG := Lib.hid (mrg_1_2 n hn)
      have l4 : bits .and .u32 (addr : Int) 3 = 2 := by rw [low4 addr ha, hk]; rfl
      have S : Hid (∀ z : World, Calls Try.prog 72 #[.int .i64 16] z fun e z' => e = .returned (.int .i64 1) ∧ z' = z) := Lib.hid (fun z => size_calls 16 z (by decide))
      have I : Hid (∀ z : World, Calls Try.prog 83 #[.int .i64 16] z fun e z' => e = .returned (.bool true) ∧ z' = z) := Lib.hid (fun z => isst_calls 16 z (by decide))
      have F : Hid (∀ z : World, Calls Try.prog 73 #[.int .i64 16, .int .u32 (addr : Int)] z fun e z' => e = .returned (.bool true) ∧ z' = z) := Lib.hid (fun z => by have := fits_calls 16 addr z (by decide) ha; rwa [hf] at this)
      have hD := u32_lt ((n : Int) * 2 ^ 16)
      have v1 : IntKind.u32.wrap ((n : Int) * 65536) = ((u32 ((n : Int) * 2 ^ 16) : Nat) : Int) := wrap_u32 _
      have v2 : ((n : Int) * 65536) % 4294967296 = ((u32 ((n : Int) * 2 ^ 16) : Nat) : Int) := mod_u32 _
      generalize u32 ((n : Int) * 2 ^ 16) = D at *
      clear hf hk
      go_enter Try.func77, Try.ntmps77
      go_wp2_with (fail)
      refine (F.out _).mono ?_
      rintro e z1 ⟨rfl, rfl⟩
      go_wp2_with (fail)
      refine (I.out _).mono ?_
      rintro e z1 ⟨rfl, rfl⟩
      go_wp2_with (fail)
      refine (S.out _).mono ?_
      rintro e z1 ⟨rfl, rfl⟩
      go_wp2_with (fail)
      refine (Merge_calls 0 D 4 _ (by decide) hD).mono ?_
      rintro e z1 ⟨rfl, rfl⟩
      go_wp2_with (fail)
      go_ret2
      exact ⟨by rw [HD.out, HM.out, HG.out]; rfl, rfl⟩
    · have HD := Lib.hid (show storeD 16 addr n = n % 2 ^ 8 * 2 ^ 24 from by unfold storeD; rw [if_neg (by rw [hf]; decide), hk]; rfl)
      have HM := Lib.hid (show storeM 16 addr = 8 from by unfold storeM; rw [if_neg (by rw [hf]; decide), hk]; rfl)
      have HG := Lib.hid (mrg_1_3 n hn)
      have l4 : bits .and .u32 (addr : Int) 3 = 3 := by rw [low4 addr ha, hk]; rfl
      have S : Hid (∀ z : World, Calls Try.prog 72 #[.int .i64 16] z fun e z' => e = .returned (.int .i64 1) ∧ z' = z) := Lib.hid (fun z => size_calls 16 z (by decide))
      have I : Hid (∀ z : World, Calls Try.prog 83 #[.int .i64 16] z fun e z' => e = .returned (.bool true) ∧ z' = z) := Lib.hid (fun z => isst_calls 16 z (by decide))
      have F : Hid (∀ z : World, Calls Try.prog 73 #[.int .i64 16, .int .u32 (addr : Int)] z fun e z' => e = .returned (.bool true) ∧ z' = z) := Lib.hid (fun z => by have := fits_calls 16 addr z (by decide) ha; rwa [hf] at this)
      have hD := u32_lt ((n : Int) * 2 ^ 24)
      have v1 : IntKind.u32.wrap ((n : Int) * 16777216) = ((u32 ((n : Int) * 2 ^ 24) : Nat) : Int) := wrap_u32 _
      have v2 : ((n : Int) * 16777216) % 4294967296 = ((u32 ((n : Int) * 2 ^ 24) : Nat) : Int) := mod_u32 _
      generalize u32 ((n : Int) * 2 ^ 24) = D at *
      clear hf hk
      go_enter Try.func77, Try.ntmps77
      go_wp2_with (fail)
      refine (F.out _).mono ?_
      rintro e z1 ⟨rfl, rfl⟩
      go_wp2_with (fail)
      refine (I.out _).mono ?_
      rintro e z1 ⟨rfl, rfl⟩
      go_wp2_with (fail)
      refine (S.out _).mono ?_
      rintro e z1 ⟨rfl, rfl⟩
      go_wp2_with (fail)
      refine (Merge_calls 0 D 8 _ (by decide) hD).mono ?_
      rintro e z1 ⟨rfl, rfl⟩
      go_wp2_with (fail)
      go_ret2
      exact ⟨by rw [HD.out, HM.out, HG.out]; rfl, rfl⟩
  · have h2 := fits2 hf rfl
    rcases (by omega : addr % 4 = 0 ∨ addr % 4 = 2) with hk | hk
    · have HD := Lib.hid (show storeD 17 addr n = n % 2 ^ 16 * 2 ^ 0 from by unfold storeD; rw [if_neg (by rw [hf]; decide), hk]; rfl)
      have HM := Lib.hid (show storeM 17 addr = 3 from by unfold storeM; rw [if_neg (by rw [hf]; decide), hk]; rfl)
      have HG := Lib.hid (show mrg 0 n 3 = n % 2 ^ 16 * 2 ^ 0 from by have := mrg_2_0 n hn; rwa [u32_one n hn] at this)
      have l4 : bits .and .u32 (addr : Int) 3 = 0 := by rw [low4 addr ha, hk]; rfl
      have S : Hid (∀ z : World, Calls Try.prog 72 #[.int .i64 17] z fun e z' => e = .returned (.int .i64 2) ∧ z' = z) := Lib.hid (fun z => size_calls 17 z (by decide))
      have I : Hid (∀ z : World, Calls Try.prog 83 #[.int .i64 17] z fun e z' => e = .returned (.bool true) ∧ z' = z) := Lib.hid (fun z => isst_calls 17 z (by decide))
      have F : Hid (∀ z : World, Calls Try.prog 73 #[.int .i64 17, .int .u32 (addr : Int)] z fun e z' => e = .returned (.bool true) ∧ z' = z) := Lib.hid (fun z => by have := fits_calls 17 addr z (by decide) ha; rwa [hf] at this)
      clear hf hk
      go_enter Try.func77, Try.ntmps77
      go_wp2_with (fail)
      refine (F.out _).mono ?_
      rintro e z1 ⟨rfl, rfl⟩
      go_wp2_with (fail)
      refine (I.out _).mono ?_
      rintro e z1 ⟨rfl, rfl⟩
      go_wp2_with (fail)
      refine (S.out _).mono ?_
      rintro e z1 ⟨rfl, rfl⟩
      go_wp2_with (fail)
      refine (Merge_calls 0 n 3 _ (by decide) hn).mono ?_
      rintro e z1 ⟨rfl, rfl⟩
      go_wp2_with (fail)
      go_ret2
      exact ⟨by rw [HD.out, HM.out, HG.out]; rfl, rfl⟩
    · have HD := Lib.hid (show storeD 17 addr n = n % 2 ^ 16 * 2 ^ 16 from by unfold storeD; rw [if_neg (by rw [hf]; decide), hk]; rfl)
      have HM := Lib.hid (show storeM 17 addr = 12 from by unfold storeM; rw [if_neg (by rw [hf]; decide), hk]; rfl)
      have HG := Lib.hid (mrg_2_2 n hn)
      have l4 : bits .and .u32 (addr : Int) 3 = 2 := by rw [low4 addr ha, hk]; rfl
      have S : Hid (∀ z : World, Calls Try.prog 72 #[.int .i64 17] z fun e z' => e = .returned (.int .i64 2) ∧ z' = z) := Lib.hid (fun z => size_calls 17 z (by decide))
      have I : Hid (∀ z : World, Calls Try.prog 83 #[.int .i64 17] z fun e z' => e = .returned (.bool true) ∧ z' = z) := Lib.hid (fun z => isst_calls 17 z (by decide))
      have F : Hid (∀ z : World, Calls Try.prog 73 #[.int .i64 17, .int .u32 (addr : Int)] z fun e z' => e = .returned (.bool true) ∧ z' = z) := Lib.hid (fun z => by have := fits_calls 17 addr z (by decide) ha; rwa [hf] at this)
      have hD := u32_lt ((n : Int) * 2 ^ 16)
      have v1 : IntKind.u32.wrap ((n : Int) * 65536) = ((u32 ((n : Int) * 2 ^ 16) : Nat) : Int) := wrap_u32 _
      have v2 : ((n : Int) * 65536) % 4294967296 = ((u32 ((n : Int) * 2 ^ 16) : Nat) : Int) := mod_u32 _
      generalize u32 ((n : Int) * 2 ^ 16) = D at *
      clear hf hk
      go_enter Try.func77, Try.ntmps77
      go_wp2_with (fail)
      refine (F.out _).mono ?_
      rintro e z1 ⟨rfl, rfl⟩
      go_wp2_with (fail)
      refine (I.out _).mono ?_
      rintro e z1 ⟨rfl, rfl⟩
      go_wp2_with (fail)
      refine (S.out _).mono ?_
      rintro e z1 ⟨rfl, rfl⟩
      go_wp2_with (fail)
      refine (Merge_calls 0 D 12 _ (by decide) hD).mono ?_
      rintro e z1 ⟨rfl, rfl⟩
      go_wp2_with (fail)
      go_ret2
      exact ⟨by rw [HD.out, HM.out, HG.out]; rfl, rfl⟩
  · have hk := fits4 hf rfl
    · have HD := Lib.hid (show storeD 18 addr n = n % 2 ^ 32 * 2 ^ 0 from by unfold storeD; rw [if_neg (by rw [hf]; decide), hk]; rfl)
      have HM := Lib.hid (show storeM 18 addr = 15 from by unfold storeM; rw [if_neg (by rw [hf]; decide), hk]; rfl)
      have HG := Lib.hid (show mrg 0 n 15 = n % 2 ^ 32 * 2 ^ 0 from by have := mrg_4_0 n hn; rwa [u32_one n hn] at this)
      have l4 : bits .and .u32 (addr : Int) 3 = 0 := by rw [low4 addr ha, hk]; rfl
      have S : Hid (∀ z : World, Calls Try.prog 72 #[.int .i64 18] z fun e z' => e = .returned (.int .i64 4) ∧ z' = z) := Lib.hid (fun z => size_calls 18 z (by decide))
      have I : Hid (∀ z : World, Calls Try.prog 83 #[.int .i64 18] z fun e z' => e = .returned (.bool true) ∧ z' = z) := Lib.hid (fun z => isst_calls 18 z (by decide))
      have F : Hid (∀ z : World, Calls Try.prog 73 #[.int .i64 18, .int .u32 (addr : Int)] z fun e z' => e = .returned (.bool true) ∧ z' = z) := Lib.hid (fun z => by have := fits_calls 18 addr z (by decide) ha; rwa [hf] at this)
      clear hf hk
      go_enter Try.func77, Try.ntmps77
      go_wp2_with (fail)
      refine (F.out _).mono ?_
      rintro e z1 ⟨rfl, rfl⟩
      go_wp2_with (fail)
      refine (I.out _).mono ?_
      rintro e z1 ⟨rfl, rfl⟩
      go_wp2_with (fail)
      refine (S.out _).mono ?_
      rintro e z1 ⟨rfl, rfl⟩
      go_wp2_with (fail)
      refine (Merge_calls 0 n 15 _ (by decide) hn).mono ?_
      rintro e z1 ⟨rfl, rfl⟩
      go_wp2_with (fail)
      go_ret2
      exact ⟨by rw [HD.out, HM.out, HG.out]; rfl, rfl⟩
end Go.Proofs.Ytggjmdgonjhioaa
