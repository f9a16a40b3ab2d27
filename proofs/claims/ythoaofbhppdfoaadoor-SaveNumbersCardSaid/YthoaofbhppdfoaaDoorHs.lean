/- The functions under a code word: how many bits; which is the lowest; the columns. -/
import Derived.Test.YthoaofbhppdfoaaDoorBits
import Derived.Test.YthoaofbhppdfoaaDoorProg
namespace Go.Proofs.YthoaofbhppdfoaaDoor
open Go.RowKit Go.Dio

set_option maxHeartbeats 1000000 in
theorem RefCount_calls (n : Nat) (w : World) (hn : n < 2 ^ 64) : Calls Tryd.prog 44 #[.int .u64 (n : Int)] w fun e w' => e = .returned (.int .i64 (pop n : Int)) ∧ w' = w := by
  go_enter Tryd.func44, Tryd.ntmps44
  go_upto_region 2 with (fail)
  go_loopw [0, 3] (fun v0 v3 wl => ∃ a b : Nat, v0 = .int .u64 (a : Int) ∧ a < 2 ^ 64 ∧ v3 = .int .i64 (b : Int) ∧ b ≤ 64 ∧ Hid (pop n = b + pop a) ∧ wl = w) (fun v0 _ _ => (intOf v0).toNat)
  case atStart => exact ⟨n, 0, rfl, hn, rfl, by omega, by simp [Hid], rfl⟩
  case round =>
    obtain ⟨a, b, rfl, ha, rfl, hb, HP, rfl⟩ := hrel
    have HL := Lib.hid (pop_le n)
    rcases Nat.eq_zero_or_pos a with h0 | h0
    · subst h0
      go_wp2
      go_ret
      rw [HP.out, pop_zero]
      exact ⟨rfl, rfl⟩
    · have hne : ((a : Int) != 0) = true := by simp; omega
      have h1 : b + 1 ≤ 64 := by have := HP.out; have := HL.out; have := pop_low h0 ha; omega
      have e1 := and_low h0 ha
      have hl := low_lt h0
      go_wp2
      go_roundw
      case rel =>
        refine ⟨low a, b + 1, rfl, by omega, by go_num, h1, ?_, trivial⟩
        show pop n = b + 1 + pop (low a)
        rw [HP.out, pop_low h0 ha]; omega
      case measure => simp [intOf]; exact hl

/-- The library's table in its variable. -/
def Tz (w : World) : Prop := ∀ j, j < 64 → w.cell? ⟨0, j, none⟩ = some (.int .u8 ((Lib.deBruijn64tab.getD j 0 : Nat) : Int))

theorem tz_key (x a : Nat) (hx : x < 18446744073709551616) (hx0 : x ≠ 0) (hlow : x &&& (18446744073709551616 - x) = a) :
    IntKind.u64.wrap (bits BinOp.and IntKind.u64 (x : Int) (IntKind.u64.wrap (-(x : Int))) * 285870213051353865) / 288230376151711744 = ((a * 285870213051353865 % 18446744073709551616 / 288230376151711744 : Nat) : Int) := by
  have ew : ∀ n : Int, IntKind.u64.wrap n = n % 18446744073709551616 := fun n => by simp [IntKind.wrap, IntKind.bits, IntKind.signed]
  have e1 : IntKind.u64.wrap (-(x : Int)) = ((18446744073709551616 - x : Nat) : Int) := by rw [ew]; omega
  rw [e1, and64 x _ hx (by omega), hlow, ew]
  omega

set_option maxHeartbeats 1000000 in
theorem tz_calls (x : Nat) (w : World) (hx : 0 < x) (hx2 : x < 2 ^ 64) (hT : Tz w) : Calls Tryd.prog 43 #[.int .u64 (x : Int)] w fun e w' => e = .returned (.int .i64 (Lib.ctz 64 x : Int)) ∧ w' = w := by
  obtain ⟨hlow, hk⟩ := Lib.lowest_bit 64 x (by omega) hx2
  obtain ⟨hi, htab⟩ := Lib.deBruijn64_at _ hk
  have hcell := hT _ hi
  rw [htab] at hcell
  have key := tz_key x _ hx2 (by omega) hlow
  obtain ⟨idx, hidx⟩ : ∃ idx, idx = 2 ^ Lib.ctz 64 x * 285870213051353865 % 18446744073709551616 / 288230376151711744 := ⟨_, rfl⟩
  obtain ⟨k, hk0⟩ : ∃ k, k = Lib.ctz 64 x := ⟨_, rfl⟩
  rw [← hk0] at hcell hk hidx hi key ⊢
  rw [← hidx] at hcell hi key
  have hne : ((x : Int) == 0) = false := by simp; omega
  clear htab hidx hlow hT hk0
  go_enter Tryd.func43, Tryd.ntmps43
  go_wp2_with (simp only [key])
  go_ret
  exact ⟨rfl, rfl⟩
end Go.Proofs.YthoaofbhppdfoaaDoor
