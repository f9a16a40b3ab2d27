/- The functions under a code word: how many bits; which is the lowest; the columns. -/
import Derived.Test.YtfnemolaoijbhadDoorBits
import Derived.Test.YtfnemolaoijbhadDoorProg
namespace Go.Proofs.YtfnemolaoijbhadDoor
open Go.RowKit Go.Dio

/-- The library's table in its variable. -/
def Tz (w : World) : Prop := ∀ j, j < 64 → w.cell? ⟨0, j, none⟩ = some (.int .u8 ((Lib.deBruijn64tab.getD j 0 : Nat) : Int))

theorem tz_key (x a : Nat) (hx : x < 18446744073709551616) (hx0 : x ≠ 0) (hlow : x &&& (18446744073709551616 - x) = a) :
    IntKind.u64.wrap (bits BinOp.and IntKind.u64 (x : Int) (IntKind.u64.wrap (-(x : Int))) * 285870213051353865) / 288230376151711744 = ((a * 285870213051353865 % 18446744073709551616 / 288230376151711744 : Nat) : Int) := by
  have ew : ∀ n : Int, IntKind.u64.wrap n = n % 18446744073709551616 := fun n => by simp [IntKind.wrap, IntKind.bits, IntKind.signed]
  have e1 : IntKind.u64.wrap (-(x : Int)) = ((18446744073709551616 - x : Nat) : Int) := by rw [ew]; omega
  rw [e1, and64 x _ hx (by omega), hlow, ew]
  omega

set_option maxHeartbeats 1000000 in
theorem tz_calls (x : Nat) (w : World) (hx : 0 < x) (hx2 : x < 2 ^ 64) (hT : Tz w) : Calls Tryd.prog 30 #[.int .u64 (x : Int)] w fun e w' => e = .returned (.int .i64 (Lib.ctz 64 x : Int)) ∧ w' = w := by
  obtain ⟨hlow, hk⟩ := Lib.lowest_bit 64 x (by omega) hx2
  obtain ⟨hi, htab⟩ := Lib.deBruijn64_at _ hk
  have hcell := hT _ hi
  rw [htab] at hcell
  have key := tz_key x _ hx2 (by omega) hlow
  obtain ⟨idx, hidx⟩ : ∃ idx, idx = 2 ^ Lib.ctz 64 x * 285870213051353865 % 18446744073709551616 / 288230376151711744 := ⟨_, rfl⟩
  obtain ⟨k, hk0⟩ : ∃ k, k = Lib.ctz 64 x := ⟨_, rfl⟩
  rw [← hk0] at hcell hk hidx hi key ⊢
  rw [← hidx] at hcell hi key
  have hne : ((x : Int) == 0) = false := by simp; omega
  clear htab hidx hlow hT hk0
  go_enter Tryd.func30, Tryd.ntmps30
  go_wp2_with (simp only [key])
  go_ret
  exact ⟨rfl, rfl⟩
end Go.Proofs.YtfnemolaoijbhadDoor
