/- The reference's loads. -/
import Derived.Test.YtmdjhahafjlebaaGreatDoorQD36
import Derived.Test.YtmdjhahafjlebaaGreatDoorQD40
import Derived.Test.YtmdjhahafjlebaaGreatDoorQD41
namespace Go.Proofs.YtmdjhahafjlebaaGreatDoor
open Go.RowKit Go.Dio
set_option linter.unusedSimpArgs false
set_option linter.unusedVariables false

theorem sh_sx (y b c w : Nat) (hb : 1 ≤ b) (hc : w * c = 4294967296) (hw : w = 2 ^ b) : IntKind.u32.wrap ((y : Int) * (c : Int)) = ((y % w * c : Nat) : Int) ∧ ((y : Int) * (c : Int)) % 4294967296 = ((y % w * c : Nat) : Int) := by
  have e : ((y : Int) * (c : Int)) = ((y * c : Nat) : Int) := by push_cast; rfl
  have h : y * c % 4294967296 = y % w * c := by rw [← hc, Nat.mul_mod_mul_right]
  rw [e, IntKind.wrap_u32]
  constructor <;> omega
theorem sx_hi8 (y : Nat) : IntKind.i32.wrap ((y % 256 * 16777216 : Nat) : Int) = sx y 8 * 16777216 ∧ sx y 8 * 16777216 / 16777216 = sx y 8 := by
  have h : sx y 8 = if y % 256 < 128 then ((y % 256 : Nat) : Int) else ((y % 256 : Nat) : Int) - 256 := rfl
  rw [h, IntKind.wrap_i32]
  constructor
  · split <;> omega
  · omega
theorem sx_hi16 (y : Nat) : IntKind.i32.wrap ((y % 65536 * 65536 : Nat) : Int) = sx y 16 * 65536 ∧ sx y 16 * 65536 / 65536 = sx y 16 := by
  have h : sx y 16 = if y % 65536 < 32768 then ((y % 65536 : Nat) : Int) else ((y % 65536 : Nat) : Int) - 65536 := rfl
  rw [h, IntKind.wrap_i32]
  constructor
  · split <;> omega
  · omega
set_option maxHeartbeats 1000000 in
theorem r7load_calls (op addr word : Nat) (z : World) (ho : 11 ≤ op ∧ op ≤ 15) (ha : addr < 2 ^ 32) (hw : word < 2 ^ 32) (hf : fitsP op addr = true) :
    Calls Tryz.prog 132 #[.int .i64 (op : Int), .int .u32 (addr : Int), .int .u32 (word : Int)] z fun e z' => e = .returned (.int .u32 ((loadP op addr word : Nat) : Int)) ∧ z' = z := by
  rcases (by omega : op = 11 ∨ op = 12 ∨ op = 13 ∨ op = 14 ∨ op = 15) with rfl | rfl | rfl | rfl | rfl
  · rcases (by omega : addr % 4 = 0 ∨ addr % 4 = 1 ∨ addr % 4 = 2 ∨ addr % 4 = 3) with hk | hk | hk | hk
    · skip
      have HE := Lib.hid (show loadP 11 addr word = u32 (sx (word / 2 ^ 0) 8) from by unfold loadP; rw [if_neg (by rw [hf]; decide), hk]; rfl)
      rw [Nat.pow_zero, Nat.div_one] at HE
      have hy : word < 2 ^ 32 := hw
      generalize word = y at *
      have l4 : bits .and .u32 (addr : Int) 3 = 0 := by rw [low4 addr ha, hk]; rfl
      have F : Hid (∀ z : World, Calls Tryz.prog 150 #[.int .i64 11, .int .u32 (addr : Int)] z fun e z' => e = .returned (.bool true) ∧ z' = z) := Lib.hid (fun z => by have := r7fits_calls 11 addr z (by decide) ha; rwa [hf] at this)
      have g1 := (sh_sx y 8 16777216 256 (by decide) (by decide) (by decide)).1
      have g2 := (sh_sx y 8 16777216 256 (by decide) (by decide) (by decide)).2
      rw [show ((16777216 : Nat) : Int) = 16777216 from rfl] at g1 g2
      have g3 := (sx_hi8 y).1
      have g4 := (sx_hi8 y).2
      have v4 := wrap_u32 (sx y 8)
      have v5 := mod_u32 (sx y 8)
      generalize u32 (sx y 8) = r at *
      generalize y % 256 * 16777216 = P at *
      generalize sx y 8 * 16777216 = Q at *
      generalize sx y 8 = x at *
      clear hf hk
      go_enter Tryz.func132, Tryz.ntmps132
      go_wp2_with (fail)
      refine (F.out _).mono ?_
      rintro e z1 ⟨rfl, rfl⟩
      go_wp2_with (fail)
      go_ret
      exact ⟨by rw [HE.out]; rfl, rfl⟩
    · skip
      have HE := Lib.hid (show loadP 11 addr word = u32 (sx (word / 2 ^ 8) 8) from by unfold loadP; rw [if_neg (by rw [hf]; decide), hk]; rfl)
      rw [show (2 : Nat) ^ 8 = 256 by decide] at HE
      have hq : (word : Int) / 256 = ((word / 256 : Nat) : Int) := by omega
      have hy : word / 256 < 2 ^ 32 := Nat.lt_of_le_of_lt (Nat.div_le_self _ _) hw
      generalize word / 256 = y at *
      have l4 : bits .and .u32 (addr : Int) 3 = 1 := by rw [low4 addr ha, hk]; rfl
      have F : Hid (∀ z : World, Calls Tryz.prog 150 #[.int .i64 11, .int .u32 (addr : Int)] z fun e z' => e = .returned (.bool true) ∧ z' = z) := Lib.hid (fun z => by have := r7fits_calls 11 addr z (by decide) ha; rwa [hf] at this)
      have g1 := (sh_sx y 8 16777216 256 (by decide) (by decide) (by decide)).1
      have g2 := (sh_sx y 8 16777216 256 (by decide) (by decide) (by decide)).2
      rw [show ((16777216 : Nat) : Int) = 16777216 from rfl] at g1 g2
      have g3 := (sx_hi8 y).1
      have g4 := (sx_hi8 y).2
      have v4 := wrap_u32 (sx y 8)
      have v5 := mod_u32 (sx y 8)
      generalize u32 (sx y 8) = r at *
      generalize y % 256 * 16777216 = P at *
      generalize sx y 8 * 16777216 = Q at *
      generalize sx y 8 = x at *
      clear hf hk
      go_enter Tryz.func132, Tryz.ntmps132
      go_wp2_with (fail)
      refine (F.out _).mono ?_
      rintro e z1 ⟨rfl, rfl⟩
      go_wp2_with (fail)
      go_ret
      exact ⟨by rw [HE.out]; rfl, rfl⟩
    · skip
      have HE := Lib.hid (show loadP 11 addr word = u32 (sx (word / 2 ^ 16) 8) from by unfold loadP; rw [if_neg (by rw [hf]; decide), hk]; rfl)
      rw [show (2 : Nat) ^ 16 = 65536 by decide] at HE
      have hq : (word : Int) / 65536 = ((word / 65536 : Nat) : Int) := by omega
      have hy : word / 65536 < 2 ^ 32 := Nat.lt_of_le_of_lt (Nat.div_le_self _ _) hw
      generalize word / 65536 = y at *
      have l4 : bits .and .u32 (addr : Int) 3 = 2 := by rw [low4 addr ha, hk]; rfl
      have F : Hid (∀ z : World, Calls Tryz.prog 150 #[.int .i64 11, .int .u32 (addr : Int)] z fun e z' => e = .returned (.bool true) ∧ z' = z) := Lib.hid (fun z => by have := r7fits_calls 11 addr z (by decide) ha; rwa [hf] at this)
      have g1 := (sh_sx y 8 16777216 256 (by decide) (by decide) (by decide)).1
      have g2 := (sh_sx y 8 16777216 256 (by decide) (by decide) (by decide)).2
      rw [show ((16777216 : Nat) : Int) = 16777216 from rfl] at g1 g2
      have g3 := (sx_hi8 y).1
      have g4 := (sx_hi8 y).2
      have v4 := wrap_u32 (sx y 8)
      have v5 := mod_u32 (sx y 8)
      generalize u32 (sx y 8) = r at *
      generalize y % 256 * 16777216 = P at *
      generalize sx y 8 * 16777216 = Q at *
      generalize sx y 8 = x at *
      clear hf hk
      go_enter Tryz.func132, Tryz.ntmps132
      go_wp2_with (fail)
      refine (F.out _).mono ?_
      rintro e z1 ⟨rfl, rfl⟩
      go_wp2_with (fail)
      go_ret
      exact ⟨by rw [HE.out]; rfl, rfl⟩
    · skip
      have HE := Lib.hid (show loadP 11 addr word = u32 (sx (word / 2 ^ 24) 8) from by unfold loadP; rw [if_neg (by rw [hf]; decide), hk]; rfl)
      rw [show (2 : Nat) ^ 24 = 16777216 by decide] at HE
      have hq : (word : Int) / 16777216 = ((word / 16777216 : Nat) : Int) := by omega
      have hy : word / 16777216 < 2 ^ 32 := Nat.lt_of_le_of_lt (Nat.div_le_self _ _) hw
      generalize word / 16777216 = y at *
      have l4 : bits .and .u32 (addr : Int) 3 = 3 := by rw [low4 addr ha, hk]; rfl
      have F : Hid (∀ z : World, Calls Tryz.prog 150 #[.int .i64 11, .int .u32 (addr : Int)] z fun e z' => e = .returned (.bool true) ∧ z' = z) := Lib.hid (fun z => by have := r7fits_calls 11 addr z (by decide) ha; rwa [hf] at this)
      have g1 := (sh_sx y 8 16777216 256 (by decide) (by decide) (by decide)).1
      have g2 := (sh_sx y 8 16777216 256 (by decide) (by decide) (by decide)).2
      rw [show ((16777216 : Nat) : Int) = 16777216 from rfl] at g1 g2
      have g3 := (sx_hi8 y).1
      have g4 := (sx_hi8 y).2
      have v4 := wrap_u32 (sx y 8)
      have v5 := mod_u32 (sx y 8)
      generalize u32 (sx y 8) = r at *
      generalize y % 256 * 16777216 = P at *
      generalize sx y 8 * 16777216 = Q at *
      generalize sx y 8 = x at *
      clear hf hk
      go_enter Tryz.func132, Tryz.ntmps132
      go_wp2_with (fail)
      refine (F.out _).mono ?_
      rintro e z1 ⟨rfl, rfl⟩
      go_wp2_with (fail)
      go_ret
      exact ⟨by rw [HE.out]; rfl, rfl⟩
  · have h2 := fits2 hf rfl
    rcases (by omega : addr % 4 = 0 ∨ addr % 4 = 2) with hk | hk
    · skip
      have HE := Lib.hid (show loadP 12 addr word = u32 (sx (word / 2 ^ 0) 16) from by unfold loadP; rw [if_neg (by rw [hf]; decide), hk]; rfl)
      rw [Nat.pow_zero, Nat.div_one] at HE
      have hy : word < 2 ^ 32 := hw
      generalize word = y at *
      have l4 : bits .and .u32 (addr : Int) 3 = 0 := by rw [low4 addr ha, hk]; rfl
      have F : Hid (∀ z : World, Calls Tryz.prog 150 #[.int .i64 12, .int .u32 (addr : Int)] z fun e z' => e = .returned (.bool true) ∧ z' = z) := Lib.hid (fun z => by have := r7fits_calls 12 addr z (by decide) ha; rwa [hf] at this)
      have g1 := (sh_sx y 16 65536 65536 (by decide) (by decide) (by decide)).1
      have g2 := (sh_sx y 16 65536 65536 (by decide) (by decide) (by decide)).2
      rw [show ((65536 : Nat) : Int) = 65536 from rfl] at g1 g2
      have g3 := (sx_hi16 y).1
      have g4 := (sx_hi16 y).2
      have v4 := wrap_u32 (sx y 16)
      have v5 := mod_u32 (sx y 16)
      generalize u32 (sx y 16) = r at *
      generalize y % 65536 * 65536 = P at *
      generalize sx y 16 * 65536 = Q at *
      generalize sx y 16 = x at *
      clear hf hk
      go_enter Tryz.func132, Tryz.ntmps132
      go_wp2_with (fail)
      refine (F.out _).mono ?_
      rintro e z1 ⟨rfl, rfl⟩
      go_wp2_with (fail)
      go_ret
      exact ⟨by rw [HE.out]; rfl, rfl⟩
    · skip
      have HE := Lib.hid (show loadP 12 addr word = u32 (sx (word / 2 ^ 16) 16) from by unfold loadP; rw [if_neg (by rw [hf]; decide), hk]; rfl)
      rw [show (2 : Nat) ^ 16 = 65536 by decide] at HE
      have hq : (word : Int) / 65536 = ((word / 65536 : Nat) : Int) := by omega
      have hy : word / 65536 < 2 ^ 32 := Nat.lt_of_le_of_lt (Nat.div_le_self _ _) hw
      generalize word / 65536 = y at *
      have l4 : bits .and .u32 (addr : Int) 3 = 2 := by rw [low4 addr ha, hk]; rfl
      have F : Hid (∀ z : World, Calls Tryz.prog 150 #[.int .i64 12, .int .u32 (addr : Int)] z fun e z' => e = .returned (.bool true) ∧ z' = z) := Lib.hid (fun z => by have := r7fits_calls 12 addr z (by decide) ha; rwa [hf] at this)
      have g1 := (sh_sx y 16 65536 65536 (by decide) (by decide) (by decide)).1
      have g2 := (sh_sx y 16 65536 65536 (by decide) (by decide) (by decide)).2
      rw [show ((65536 : Nat) : Int) = 65536 from rfl] at g1 g2
      have g3 := (sx_hi16 y).1
      have g4 := (sx_hi16 y).2
      have v4 := wrap_u32 (sx y 16)
      have v5 := mod_u32 (sx y 16)
      generalize u32 (sx y 16) = r at *
      generalize y % 65536 * 65536 = P at *
      generalize sx y 16 * 65536 = Q at *
      generalize sx y 16 = x at *
      clear hf hk
      go_enter Tryz.func132, Tryz.ntmps132
      go_wp2_with (fail)
      refine (F.out _).mono ?_
      rintro e z1 ⟨rfl, rfl⟩
      go_wp2_with (fail)
      go_ret
      exact ⟨by rw [HE.out]; rfl, rfl⟩
  · have hk := fits4 hf rfl
    case _ =>
      have HE := Lib.hid (show loadP 13 addr word = word / 2 ^ 0 from by unfold loadP; rw [if_neg (by rw [hf]; decide), hk]; rfl)
      rw [Nat.pow_zero, Nat.div_one] at HE
      have hy : word < 2 ^ 32 := hw
      generalize word = y at *
      have l4 : bits .and .u32 (addr : Int) 3 = 0 := by rw [low4 addr ha, hk]; rfl
      have F : Hid (∀ z : World, Calls Tryz.prog 150 #[.int .i64 13, .int .u32 (addr : Int)] z fun e z' => e = .returned (.bool true) ∧ z' = z) := Lib.hid (fun z => by have := r7fits_calls 13 addr z (by decide) ha; rwa [hf] at this)
      clear hf hk
      go_enter Tryz.func132, Tryz.ntmps132
      go_wp2_with (fail)
      refine (F.out _).mono ?_
      rintro e z1 ⟨rfl, rfl⟩
      go_wp2_with (fail)
      go_ret
      exact ⟨by rw [HE.out]; rfl, rfl⟩
  · rcases (by omega : addr % 4 = 0 ∨ addr % 4 = 1 ∨ addr % 4 = 2 ∨ addr % 4 = 3) with hk | hk | hk | hk
    · skip
      have HE := Lib.hid (show loadP 14 addr word = word / 2 ^ 0 % 256 from by unfold loadP; rw [if_neg (by rw [hf]; decide), hk]; rfl)
      rw [Nat.pow_zero, Nat.div_one] at HE
      have hy : word < 2 ^ 32 := hw
      generalize word = y at *
      have l4 : bits .and .u32 (addr : Int) 3 = 0 := by rw [low4 addr ha, hk]; rfl
      have F : Hid (∀ z : World, Calls Tryz.prog 150 #[.int .i64 14, .int .u32 (addr : Int)] z fun e z' => e = .returned (.bool true) ∧ z' = z) := Lib.hid (fun z => by have := r7fits_calls 14 addr z (by decide) ha; rwa [hf] at this)
      have v1 : bits .and .u32 (y : Int) 255 = ((y % 256 : Nat) : Int) := lo_and y 8 hy (by decide)
      generalize y % 256 = r at *
      clear hf hk
      go_enter Tryz.func132, Tryz.ntmps132
      go_wp2_with (fail)
      refine (F.out _).mono ?_
      rintro e z1 ⟨rfl, rfl⟩
      go_wp2_with (fail)
      go_ret
      exact ⟨by rw [HE.out]; rfl, rfl⟩
    · skip
      have HE := Lib.hid (show loadP 14 addr word = word / 2 ^ 8 % 256 from by unfold loadP; rw [if_neg (by rw [hf]; decide), hk]; rfl)
      rw [show (2 : Nat) ^ 8 = 256 by decide] at HE
      have hq : (word : Int) / 256 = ((word / 256 : Nat) : Int) := by omega
      have hy : word / 256 < 2 ^ 32 := Nat.lt_of_le_of_lt (Nat.div_le_self _ _) hw
      generalize word / 256 = y at *
      have l4 : bits .and .u32 (addr : Int) 3 = 1 := by rw [low4 addr ha, hk]; rfl
      have F : Hid (∀ z : World, Calls Tryz.prog 150 #[.int .i64 14, .int .u32 (addr : Int)] z fun e z' => e = .returned (.bool true) ∧ z' = z) := Lib.hid (fun z => by have := r7fits_calls 14 addr z (by decide) ha; rwa [hf] at this)
      have v1 : bits .and .u32 (y : Int) 255 = ((y % 256 : Nat) : Int) := lo_and y 8 hy (by decide)
      generalize y % 256 = r at *
      clear hf hk
      go_enter Tryz.func132, Tryz.ntmps132
      go_wp2_with (fail)
      refine (F.out _).mono ?_
      rintro e z1 ⟨rfl, rfl⟩
      go_wp2_with (fail)
      go_ret
      exact ⟨by rw [HE.out]; rfl, rfl⟩
    · skip
      have HE := Lib.hid (show loadP 14 addr word = word / 2 ^ 16 % 256 from by unfold loadP; rw [if_neg (by rw [hf]; decide), hk]; rfl)
      rw [show (2 : Nat) ^ 16 = 65536 by decide] at HE
      have hq : (word : Int) / 65536 = ((word / 65536 : Nat) : Int) := by omega
      have hy : word / 65536 < 2 ^ 32 := Nat.lt_of_le_of_lt (Nat.div_le_self _ _) hw
      generalize word / 65536 = y at *
      have l4 : bits .and .u32 (addr : Int) 3 = 2 := by rw [low4 addr ha, hk]; rfl
      have F : Hid (∀ z : World, Calls Tryz.prog 150 #[.int .i64 14, .int .u32 (addr : Int)] z fun e z' => e = .returned (.bool true) ∧ z' = z) := Lib.hid (fun z => by have := r7fits_calls 14 addr z (by decide) ha; rwa [hf] at this)
      have v1 : bits .and .u32 (y : Int) 255 = ((y % 256 : Nat) : Int) := lo_and y 8 hy (by decide)
      generalize y % 256 = r at *
      clear hf hk
      go_enter Tryz.func132, Tryz.ntmps132
      go_wp2_with (fail)
      refine (F.out _).mono ?_
      rintro e z1 ⟨rfl, rfl⟩
      go_wp2_with (fail)
      go_ret
      exact ⟨by rw [HE.out]; rfl, rfl⟩
    · skip
      have HE := Lib.hid (show loadP 14 addr word = word / 2 ^ 24 % 256 from by unfold loadP; rw [if_neg (by rw [hf]; decide), hk]; rfl)
      rw [show (2 : Nat) ^ 24 = 16777216 by decide] at HE
      have hq : (word : Int) / 16777216 = ((word / 16777216 : Nat) : Int) := by omega
      have hy : word / 16777216 < 2 ^ 32 := Nat.lt_of_le_of_lt (Nat.div_le_self _ _) hw
      generalize word / 16777216 = y at *
      have l4 : bits .and .u32 (addr : Int) 3 = 3 := by rw [low4 addr ha, hk]; rfl
      have F : Hid (∀ z : World, Calls Tryz.prog 150 #[.int .i64 14, .int .u32 (addr : Int)] z fun e z' => e = .returned (.bool true) ∧ z' = z) := Lib.hid (fun z => by have := r7fits_calls 14 addr z (by decide) ha; rwa [hf] at this)
      have v1 : bits .and .u32 (y : Int) 255 = ((y % 256 : Nat) : Int) := lo_and y 8 hy (by decide)
      generalize y % 256 = r at *
      clear hf hk
      go_enter Tryz.func132, Tryz.ntmps132
      go_wp2_with (fail)
      refine (F.out _).mono ?_
      rintro e z1 ⟨rfl, rfl⟩
      go_wp2_with (fail)
      go_ret
      exact ⟨by rw [HE.out]; rfl, rfl⟩
  · have h2 := fits2 hf rfl
    rcases (by omega : addr % 4 = 0 ∨ addr % 4 = 2) with hk | hk
    · skip
      have HE := Lib.hid (show loadP 15 addr word = word / 2 ^ 0 % 65536 from by unfold loadP; rw [if_neg (by rw [hf]; decide), hk]; rfl)
      rw [Nat.pow_zero, Nat.div_one] at HE
      have hy : word < 2 ^ 32 := hw
      generalize word = y at *
      have l4 : bits .and .u32 (addr : Int) 3 = 0 := by rw [low4 addr ha, hk]; rfl
      have F : Hid (∀ z : World, Calls Tryz.prog 150 #[.int .i64 15, .int .u32 (addr : Int)] z fun e z' => e = .returned (.bool true) ∧ z' = z) := Lib.hid (fun z => by have := r7fits_calls 15 addr z (by decide) ha; rwa [hf] at this)
      have v1 : bits .and .u32 (y : Int) 65535 = ((y % 65536 : Nat) : Int) := lo_and y 16 hy (by decide)
      generalize y % 65536 = r at *
      clear hf hk
      go_enter Tryz.func132, Tryz.ntmps132
      go_wp2_with (fail)
      refine (F.out _).mono ?_
      rintro e z1 ⟨rfl, rfl⟩
      go_wp2_with (fail)
      go_ret
      exact ⟨by rw [HE.out]; rfl, rfl⟩
    · skip
      have HE := Lib.hid (show loadP 15 addr word = word / 2 ^ 16 % 65536 from by unfold loadP; rw [if_neg (by rw [hf]; decide), hk]; rfl)
      rw [show (2 : Nat) ^ 16 = 65536 by decide] at HE
      have hq : (word : Int) / 65536 = ((word / 65536 : Nat) : Int) := by omega
      have hy : word / 65536 < 2 ^ 32 := Nat.lt_of_le_of_lt (Nat.div_le_self _ _) hw
      generalize word / 65536 = y at *
      have l4 : bits .and .u32 (addr : Int) 3 = 2 := by rw [low4 addr ha, hk]; rfl
      have F : Hid (∀ z : World, Calls Tryz.prog 150 #[.int .i64 15, .int .u32 (addr : Int)] z fun e z' => e = .returned (.bool true) ∧ z' = z) := Lib.hid (fun z => by have := r7fits_calls 15 addr z (by decide) ha; rwa [hf] at this)
      have v1 : bits .and .u32 (y : Int) 65535 = ((y % 65536 : Nat) : Int) := lo_and y 16 hy (by decide)
      generalize y % 65536 = r at *
      clear hf hk
      go_enter Tryz.func132, Tryz.ntmps132
      go_wp2_with (fail)
      refine (F.out _).mono ?_
      rintro e z1 ⟨rfl, rfl⟩
      go_wp2_with (fail)
      go_ret
      exact ⟨by rw [HE.out]; rfl, rfl⟩
end Go.Proofs.YtmdjhahafjlebaaGreatDoor

namespace Go.Proofs.YtmdjhahafjlebaaGreatDoor
open Go.RowKit Go.Dio
set_option linter.unusedSimpArgs false
set_option linter.unusedVariables false

structure RfAt (rb gb base : Nat) (tv : Value) (s : MSt) (w : World) : Prop where
  cell : w.heap[rb]? = some (.cells (mcells s gb tv).toArray 55 (0, 0))
  mem : w.heap[gb]? = some (.cells (nums .u32 s.mem) 36 (0, 0))
  own : Ow base w tv s.trace
  ne : gb ≠ rb
  top : rb < base ∧ gb < base
theorem RfAt.upd {mb gb base : Nat} {tv : Value} {s : MSt} {w w' : World} {S : List Nat} (h : RfAt mb gb base tv s w) (u : Upd S w w') (h1 : mb ∉ S) (h2 : gb ∉ S) (h3 : ∀ g, tv.ownBlock = some g → g ∉ S) : RfAt mb gb base tv s w' :=
  ⟨u.keep h.cell h1, u.keep h.mem h2, own_upd h.own u h3, h.ne, h.top⟩
theorem RfAt.upd0 {mb gb base : Nat} {tv : Value} {s : MSt} {w w' : World} (h : RfAt mb gb base tv s w) (u : Upd [] w w') : RfAt mb gb base tv s w' := h.upd u (by simp) (by simp) (by simp)
theorem RfAt.cAt {mb gb base : Nat} {tv : Value} {s : MSt} {w : World} (h : RfAt mb gb base tv s w) (j : Nat) : w.cell? ⟨mb, j, none⟩ = (mcells s gb tv)[j]? := by
  rw [cells_of h.cell]; simp
/-- Its record is written anew. -/
theorem RfAt.set {rb gb base : Nat} {tv : Value} {s s' : MSt} {w w' : World} (h : RfAt rb gb base tv s w) (u : Upd [rb] w w') (hc : w'.heap[rb]? = some (.cells (mcells s' gb tv).toArray 55 (0, 0))) (hm : s'.mem = s.mem) (ht : s'.trace = s.trace) : RfAt rb gb base tv s' w' :=
  ⟨hc, by rw [hm]; exact u.keep h.mem (by have := h.ne; simpa using this), by rw [ht]; exact own_upd h.own u (fun g hg hs => by have := (World.ownsRow.lt h.own g hg).1; have := h.top.1; simp at hs; omega), h.ne, h.top⟩
theorem mset_csr (s : MSt) (gb : Nat) (tv : Value) (j n : Nat) (hr : s.regs.length = 32) (hc : s.csrs.length = 5) (hj : j < 5) : (mcells s gb tv).set (33 + j) (.int .u32 (n : Int)) = mcells { s with csrs := s.csrs.set j n } gb tv := by
  rw [mcells, show 33 + j = (32 + j) + 1 by omega, List.set_cons_succ, List.set_append_right _ _ (by rw [vals_length]; omega), vals_length, hr, show 32 + j - 32 = j by omega,
    List.set_append_left _ _ (by rw [vals_length]; omega), vals_set]
  rfl
def applyM (s : MSt) (x : MadeV) : MSt := { s with pc := x.next, csrs := x.csrs, regs := if x.r.rd = 0 then s.regs else s.regs.set x.r.rd.toNat x.r.val.toNat }
def pcR (pc : Nat) : RetV := ⟨(pc : Int), 0, 0, false, 0, 0, 0⟩
/-- What a call of the reference's leaves: the answer, the record. -/
def RfR (rb gb base : Nat) (tv : Value) (s' : MSt) (r : RetV) (w : World) (e : Ending) (w' : World) : Prop :=
  e = .returned (.agg (retL r).toArray) ∧ RfAt rb gb base tv s' w' ∧ Upd [rb] w w'
set_option maxRecDepth 20000 in
set_option maxHeartbeats 4000000 in
theorem rtrap_calls (rb gb base : Nat) (tv : Value) (s : MSt) (zz : World) (M : RfAt rb gb base tv s zz) (hr : s.regs.length = 32) (hc : s.csrs.length = 5) (pc cause val : Nat) (hp : pc < 2 ^ 32) (hcs : cause < 2 ^ 32) (hv : val < 2 ^ 32) :
    Calls Tryz.prog 54 #[.pointer (some ⟨rb, 0, none⟩), .int .u32 (pc : Int), .int .i64 (cause : Int), .int .u32 (val : Int)] zz fun e z' => RfR rb gb base tv (applyM s (trapP pc s.csrs cause val)) (pcR pc) zz e z' := by
  have q1 := high2 pc hp
  have q2 : IntKind.u32.wrap (cause : Int) = (cause : Int) := by rw [wrap_u32, u32_id hcs]
  have q3 : (cause : Int) % 4294967296 = (cause : Int) := by omega
  have hlt := lt_of_block M.cell
  have hgl := lt_of_block M.mem
  have hown : ∀ g, tv.ownBlock = some g → g < zz.heap.size := fun g hg => (World.ownsRow.lt M.own g hg).2
  have EQ : Hid (applyM s (trapP pc s.csrs cause val) = { s with csrs := ((s.csrs.set 2 (low2 pc)).set 3 cause).set 4 val, pc := nth s.csrs 0 }) := Lib.hid rfl
  have hl : pc / 4 * 4 = low2 pc := rfl
  rw [hl] at q1
  clear hl
  generalize low2 pc = lp at q1 EQ
  have R0 := Lib.hid (hl1 zz (.cells (retL ⟨0, 0, 0, false, 0, 0, 0⟩).toArray 38))
  have U0 := Lib.hid ((Upd.refl [] zz).alloc (.cells (retL ⟨0, 0, 0, false, 0, 0, 0⟩).toArray 38))
  have M0 := Lib.hid (M.upd0 ((Upd.refl [] zz).alloc (.cells (retL ⟨0, 0, 0, false, 0, 0, 0⟩).toArray 38)))
  clear M
  go_enter Tryz.func54, Tryz.ntmps54
  go_wp2_with (fail)
  generalize hW : World.alloc zz _ = W
  have hW2 : zz.alloc (.cells (retL ⟨0, 0, 0, false, 0, 0, 0⟩).toArray 38) = W := hW
  rw [hW2] at R0 M0 U0
  clear hW hW2
  refine wp_region_plan (fun z => ∃ x : Near [rb] W, z = x.1) [([0, 1, 2, 3, 4, 5, 6, 7, 8, 9, 10, 11, 13, 14, 15, 18, 19, 20], 12), ([16], 17), ([21], 22)] [] (by kernel_rfl) (by kernel_rfl) (by kernel_rfl) (by kernel_rfl) (fun _ d _ _ _ h => by cases d <;> exact h) ⟨⟨(W).drew, (Upd.refl _ _).drew⟩, rfl⟩ ?_
  refine plan_next ?_
  simp only [opsAt, List.map_cons, List.map_nil, List.getElem?_toArray, List.getElem?_cons_zero, List.getElem?_cons_succ, Option.getD_some]
  go_simp
  repeat (go_big_quiet_step (fail))
  refine wpQuiet_nil ?_
  refine plan_one rfl ?_
  refine L_store_int 36 (.tmp 20) (.tmp 13) rfl (by kernel_rfl) rb (33 + 2) rfl (mcells s gb tv) 55 (show (World.drew W).heap[rb]? = _ from M0.out.cell) .u32 (lp : Int) rfl info_u1 (by rw [mcells_len s gb tv hr hc]; decide) ?_
  intro w2 b2 u2 z2
  rw [mset_csr s gb tv 2 lp hr hc (by decide)] at b2
  have M2 := Lib.hid b2
  have V2 := Lib.hid (((Upd.refl [rb] W).drew).trans u2)
  clear b2 u2 z2
  refine plan_same ⟨⟨_, V2.out⟩, rfl⟩ ?_
  refine plan_next ?_
  simp only [opsAt, List.map_cons, List.map_nil, List.getElem?_toArray, List.getElem?_cons_zero, List.getElem?_cons_succ, Option.getD_some]
  go_simp
  repeat (go_big_quiet_step (fail))
  refine wpQuiet_nil ?_
  refine plan_one rfl ?_
  refine L_store_int 36 (.tmp 24) (.tmp 15) rfl (by kernel_rfl) rb (33 + 3) rfl (mcells { s with csrs := s.csrs.set 2 lp } gb tv) 55 M2.out .u32 (cause : Int) rfl info_u1 (by rw [mcells_len { s with csrs := s.csrs.set 2 lp } gb tv hr (by simpa using hc)]; decide) ?_
  intro w3 b3 u3 z3
  rw [mset_csr { s with csrs := s.csrs.set 2 lp } gb tv 3 cause hr (by simpa using hc) (by decide)] at b3
  have M3 := Lib.hid b3
  have V3 := Lib.hid (V2.out.trans u3)
  clear b3 u3 z3 M2 V2
  refine plan_same ⟨⟨_, V3.out⟩, rfl⟩ ?_
  refine plan_next ?_
  simp only [opsAt, List.map_cons, List.map_nil, List.getElem?_toArray, List.getElem?_cons_zero, List.getElem?_cons_succ, Option.getD_some]
  go_simp
  repeat (go_big_quiet_step (fail))
  refine wpQuiet_nil ?_
  refine plan_one rfl ?_
  refine L_store_int 36 (.tmp 28) (.tmp 16) rfl (by kernel_rfl) rb (33 + 4) rfl (mcells { s with csrs := (s.csrs.set 2 lp).set 3 cause } gb tv) 55 M3.out .u32 (val : Int) rfl info_u1 (by rw [mcells_len { s with csrs := (s.csrs.set 2 lp).set 3 cause } gb tv hr (by simpa using hc)]; decide) ?_
  intro w4 b4 u4 z4
  rw [mset_csr { s with csrs := (s.csrs.set 2 lp).set 3 cause } gb tv 4 val hr (by simpa using hc) (by decide)] at b4
  have M4 := Lib.hid b4
  have V4 := Lib.hid (V3.out.trans u4)
  clear b4 u4 z4 M3 V3
  refine plan_same ⟨⟨_, V4.out⟩, rfl⟩ ?_
  refine plan_last ?_
  simp only [opsAt, List.map_cons, List.map_nil, List.getElem?_toArray, List.getElem?_cons_zero, List.getElem?_cons_succ, Option.getD_some]
  go_simp
  repeat (go_big_quiet_step (fail))
  refine wpQuiet_nil ?_
  unfold planEnd
  have hc4 : (((s.csrs.set 2 lp).set 3 cause).set 4 val).length = 5 := by simpa using hc
  have R4 := Lib.hid (V4.out.keep R0.out (by simp; omega))
  have N4 : Hid (RfAt rb gb base tv { s with csrs := ((s.csrs.set 2 lp).set 3 cause).set 4 val } w4) := Lib.hid (M0.out.set V4.out M4.out rfl rfl)
  have c33 : w4.cell? ⟨rb, 33, none⟩ = some (.int .u32 ((nth s.csrs 0 : Nat) : Int)) := by
    rw [N4.out.cAt 33]
    have h := mc_csr { s with csrs := ((s.csrs.set 2 lp).set 3 cause).set 4 val } gb tv 0 hr hc4 (by decide)
    rw [show nth (((s.csrs.set 2 lp).set 3 cause).set 4 val) 0 = nth s.csrs 0 by rw [nth_setN (by decide), nth_setN (by decide), nth_setN (by decide)]] at h
    exact h
  clear R0 M0 M4
  obtain ⟨c0, hc0⟩ : ∃ c0, c0 = nth s.csrs 0 := ⟨_, rfl⟩
  rw [← hc0] at c33 EQ
  clear hc0
  go_wp2_with (first
    | go_skip
    | ((with_reducible refine at_st 38 ?_); refine L_store_int 36 (.tmp 38) (.tmp 35) rfl (by kernel_rfl) rb 0 rfl (mcells { s with csrs := ((s.csrs.set 2 lp).set 3 cause).set 4 val } gb tv) 55 N4.out.cell .u32 (c0 : Int) rfl info_u1 (by rw [mcells_len { s with csrs := ((s.csrs.set 2 lp).set 3 cause).set 4 val } gb tv hr hc4]; decide) ?_))
  intro w5 b5 u5 z5
  rw [mset_pc] at b5
  have R5 := Lib.hid (u5.keep R4.out (by simp; omega))
  have N5 : Hid (RfAt rb gb base tv { s with csrs := ((s.csrs.set 2 lp).set 3 cause).set 4 val, pc := c0 } w5) := Lib.hid (N4.out.set u5 b5 rfl rfl)
  have V5 := Lib.hid ((U0.out.mono (T := [rb]) (by simp)).trans (V4.out.trans u5))
  clear b5 u5 z5 R4 N4 V4 c33 U0
  go_wp2_with (first
    | go_skip
    | ((with_reducible refine at_st 8 ?_); refine L_store_row 38 (.tmp 8) (.tmp 40) rfl (by kernel_rfl) zz.heap.size 0 rfl (retL ⟨0, 0, 0, false, 0, 0, 0⟩) 38 R5.out (retL (pcR pc)).toArray rfl 7 info_ret rfl (by decide) (retL_one _) ?_))
  intro wA bA uA zA
  rw [spl_all (by rfl)] at bA
  go_wp2_with (fail)
  refine bodyPost_ret (results_cell_row rfl _ _ (zz.heap.size) 38 (retL (pcR pc)).toArray _ _ rfl bA Tryz.underlying38 rfl info_ret) rfl ⟨rfl, ?_⟩
  rw [EQ.out]
  refine ⟨N5.out.upd uA (by simp; omega) (by simp; omega) (fun g hg => by have := hown g hg; simp; omega), ?_⟩
  exact V5.out.then uA (fun x hx hlt => by simp at hx; omega)
end Go.Proofs.YtmdjhahafjlebaaGreatDoor
