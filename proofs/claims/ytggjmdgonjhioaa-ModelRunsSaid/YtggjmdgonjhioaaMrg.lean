/- A word with some bytes of another one. -/
import Derived.Test.YtggjmdgonjhioaaBits
import Derived.Test.YtggjmdgonjhioaaProg
import Derived.Deep.LoopGhost
namespace Go.Proofs.Ytggjmdgonjhioaa
open Go.RowKit Go.Dio
set_option linter.unusedSimpArgs false
set_option linter.unusedVariables false

/-- Is that byte meant? -/
def mbit (mask : Int) (k : Nat) : Bool := decide (mask / (2 : Int) ^ k % 2 = 1)
def mstep (old data : Nat) (k : Nat) : Nat := (old &&& (4294967295 ^^^ (255 * 2 ^ (8 * k)))) ||| (data &&& (255 * 2 ^ (8 * k)))
def mrgK (old data : Nat) (mask : Int) : Nat → Nat
  | 0 => old
  | k + 1 => if mbit mask k then mstep (mrgK old data mask k) data k else mrgK old data mask k
def mrg (old data : Nat) (mask : Int) : Nat := mrgK old data mask 4
theorem mstep_lt {old data k : Nat} (ho : old < 2 ^ 32) (hd : data < 2 ^ 32) : mstep old data k < 2 ^ 32 :=
  Nat.or_lt_two_pow (Nat.lt_of_le_of_lt Nat.and_le_left ho) (Nat.lt_of_le_of_lt Nat.and_le_left hd)
theorem mrgK_lt {old data : Nat} {mask : Int} (ho : old < 2 ^ 32) (hd : data < 2 ^ 32) : ∀ k, mrgK old data mask k < 2 ^ 32
  | 0 => ho
  | k + 1 => by unfold mrgK; split; exact mstep_lt (mrgK_lt ho hd k) hd; exact mrgK_lt ho hd k

theorem and_one (z : Int) : bits .and .i64 z 1 = z % 2 := by
  have e : bits .and .i64 z 1 = IntKind.i64.wrap (((BitVec.ofInt 64 z) &&& (BitVec.ofInt 64 1)).toNat : Int) := rfl
  have h1 : (BitVec.ofInt 64 1 : BitVec 64).toNat = 2 ^ 1 - 1 := by decide
  rw [BitVec.toNat_and, h1, Nat.and_two_pow_sub_one_eq_mod] at e
  rw [e, wrapi64 (Int.natCast_nonneg _) (by have := Nat.mod_lt (BitVec.ofInt 64 z).toNat (show 0 < 2 ^ 1 by decide); omega)]
  rw [BitVec.toNat_ofInt]
  omega
theorem andnot32 (a b : Nat) (ha : a < 2 ^ 32) (hb : b < 2 ^ 32) : bits .andNot .u32 (a : Int) (b : Int) = ((a &&& (4294967295 ^^^ b) : Nat) : Int) := by
  have ha' : a % 2 ^ 32 = a := Nat.mod_eq_of_lt ha
  have hb' : b % 2 ^ 32 = b := Nat.mod_eq_of_lt hb
  have hx : (4294967295 ^^^ b) = 2 ^ 32 - 1 - b := by
    apply Nat.eq_of_testBit_eq
    intro i
    rw [Nat.testBit_xor, show 2 ^ 32 - 1 - b = 2 ^ 32 - (b + 1) by omega, Nat.testBit_two_pow_sub_succ hb, show (4294967295 : Nat) = 2 ^ 32 - 1 by decide, Nat.testBit_two_pow_sub_one]
    by_cases hi : i < 32
    · simp [hi]
    · simp [hi, Nat.testBit_lt_two_pow (Nat.lt_of_lt_of_le hb (Nat.pow_le_pow_right (by decide) (show 32 ≤ i by omega)))]
  have e : bits .andNot .u32 (a : Int) (b : Int) = IntKind.u32.wrap ((((BitVec.ofInt 32 a) &&& ~~~(BitVec.ofInt 32 b)).toNat : Nat) : Int) := rfl
  rw [e, BitVec.toNat_and, BitVec.toNat_not, BitVec.ofInt_natCast, BitVec.ofInt_natCast, BitVec.toNat_ofNat, BitVec.toNat_ofNat, ha', hb', hx]
  exact wrap32 (Int.natCast_nonneg _) (by exact_mod_cast Nat.lt_of_le_of_lt Nat.and_le_left ha)

theorem Merge_calls (old data : Nat) (mask : Int) (w : World) (ho : old < 2 ^ 32) (hd : data < 2 ^ 32) :
    Calls Try.prog 35 #[.int .u32 (old : Int), .int .u32 (data : Int), .int .i64 mask] w fun e w' => e = .returned (.int .u32 (mrg old data mask : Int)) ∧ w' = w := by
  go_enter Try.func35, Try.ntmps35
  go_wp2_with (fail)
  go_loopg [0, 9] 4 (fun g v0 v9 wl => ∃ (k m : Nat), v9 = .int .i64 (k : Int) ∧ k ≤ 4 ∧ g = 4 - k ∧ v0 = .int .u32 (m : Int) ∧ Hid (m = mrgK old data mask k) ∧ m < 2 ^ 32 ∧ Hid (wl = w))
  case atStart => exact ⟨0, old, rfl, by omega, rfl, rfl, Lib.hid rfl, ho, Lib.hid rfl⟩
  case round =>
    obtain ⟨k, m, rfl, hk, hg, rfl, HM, hm, HW⟩ := hrel
    rcases (by omega : k = 0 ∨ k = 1 ∨ k = 2 ∨ k = 3 ∨ k = 4) with rfl | rfl | rfl | rfl | rfl
    · skip
      have hb : (bits .and .i64 mask 1 == 1) = mbit mask 0 := by
        rw [and_one, mbit, Bool.eq_iff_iff]
        simp
      have e1 : bits .andNot .u32 (m : Int) 255 = ((m &&& (4294967295 ^^^ 255) : Nat) : Int) := andnot32 m 255 hm (by decide)
      have e2 : bits .and .u32 (data : Int) 255 = ((data &&& 255 : Nat) : Int) := and32 data 255 hd (by decide)
      have e3 := or32 (m &&& (4294967295 ^^^ 255)) (data &&& 255) (Nat.lt_of_le_of_lt Nat.and_le_left hm) (Nat.lt_of_le_of_lt Nat.and_le_left hd)
      have hn := mstep_lt (k := 0) hm hd
      have hs : mstep m data 0 = (m &&& (4294967295 ^^^ 255)) ||| (data &&& 255) := rfl
      rw [← hs] at e3
      have HN : Hid (mrgK old data mask 1 = if mbit mask 0 then mstep m data 0 else m) := Lib.hid (by rw [HM.out]; rfl)
      clear hs
      generalize mstep m data 0 = m2 at e3 hn HN
      generalize m &&& (4294967295 ^^^ 255) = p1 at e1 e3
      generalize data &&& 255 = p2 at e2 e3
      cases hB : mbit mask 0
      · rw [hB] at hb HN
        clear hB e1 e2 e3
        go_wp2_with (fail)
        go_roundg (4 - 1)
        case measure => omega
        case rel => exact ⟨1, m, rfl, by omega, rfl, rfl, Lib.hid (by rw [HN.out]; rfl), hm, HW⟩
      · rw [hB] at hb HN
        clear hB
        go_wp2_with (fail)
        go_roundg (4 - 1)
        case measure => omega
        case rel => exact ⟨1, m2, rfl, by omega, rfl, rfl, Lib.hid (by rw [HN.out]; rfl), hn, HW⟩
    · skip
      have hb : (bits .and .i64 (mask / 2) 1 == 1) = mbit mask 1 := by
        rw [and_one, mbit, Bool.eq_iff_iff]
        simp
      have e1 : bits .andNot .u32 (m : Int) 65280 = ((m &&& (4294967295 ^^^ 65280) : Nat) : Int) := andnot32 m 65280 hm (by decide)
      have e2 : bits .and .u32 (data : Int) 65280 = ((data &&& 65280 : Nat) : Int) := and32 data 65280 hd (by decide)
      have e3 := or32 (m &&& (4294967295 ^^^ 65280)) (data &&& 65280) (Nat.lt_of_le_of_lt Nat.and_le_left hm) (Nat.lt_of_le_of_lt Nat.and_le_left hd)
      have hn := mstep_lt (k := 1) hm hd
      have hs : mstep m data 1 = (m &&& (4294967295 ^^^ 65280)) ||| (data &&& 65280) := rfl
      rw [← hs] at e3
      have HN : Hid (mrgK old data mask 2 = if mbit mask 1 then mstep m data 1 else m) := Lib.hid (by rw [HM.out]; rfl)
      clear hs
      generalize mstep m data 1 = m2 at e3 hn HN
      generalize m &&& (4294967295 ^^^ 65280) = p1 at e1 e3
      generalize data &&& 65280 = p2 at e2 e3
      cases hB : mbit mask 1
      · rw [hB] at hb HN
        clear hB e1 e2 e3
        go_wp2_with (fail)
        go_roundg (4 - 2)
        case measure => omega
        case rel => exact ⟨2, m, rfl, by omega, rfl, rfl, Lib.hid (by rw [HN.out]; rfl), hm, HW⟩
      · rw [hB] at hb HN
        clear hB
        go_wp2_with (fail)
        go_roundg (4 - 2)
        case measure => omega
        case rel => exact ⟨2, m2, rfl, by omega, rfl, rfl, Lib.hid (by rw [HN.out]; rfl), hn, HW⟩
    · skip
      have hb : (bits .and .i64 (mask / 4) 1 == 1) = mbit mask 2 := by
        rw [and_one, mbit, Bool.eq_iff_iff]
        simp
      have e1 : bits .andNot .u32 (m : Int) 16711680 = ((m &&& (4294967295 ^^^ 16711680) : Nat) : Int) := andnot32 m 16711680 hm (by decide)
      have e2 : bits .and .u32 (data : Int) 16711680 = ((data &&& 16711680 : Nat) : Int) := and32 data 16711680 hd (by decide)
      have e3 := or32 (m &&& (4294967295 ^^^ 16711680)) (data &&& 16711680) (Nat.lt_of_le_of_lt Nat.and_le_left hm) (Nat.lt_of_le_of_lt Nat.and_le_left hd)
      have hn := mstep_lt (k := 2) hm hd
      have hs : mstep m data 2 = (m &&& (4294967295 ^^^ 16711680)) ||| (data &&& 16711680) := rfl
      rw [← hs] at e3
      have HN : Hid (mrgK old data mask 3 = if mbit mask 2 then mstep m data 2 else m) := Lib.hid (by rw [HM.out]; rfl)
      clear hs
      generalize mstep m data 2 = m2 at e3 hn HN
      generalize m &&& (4294967295 ^^^ 16711680) = p1 at e1 e3
      generalize data &&& 16711680 = p2 at e2 e3
      cases hB : mbit mask 2
      · rw [hB] at hb HN
        clear hB e1 e2 e3
        go_wp2_with (fail)
        go_roundg (4 - 3)
        case measure => omega
        case rel => exact ⟨3, m, rfl, by omega, rfl, rfl, Lib.hid (by rw [HN.out]; rfl), hm, HW⟩
      · rw [hB] at hb HN
        clear hB
        go_wp2_with (fail)
        go_roundg (4 - 3)
        case measure => omega
        case rel => exact ⟨3, m2, rfl, by omega, rfl, rfl, Lib.hid (by rw [HN.out]; rfl), hn, HW⟩
    · skip
      have hb : (bits .and .i64 (mask / 8) 1 == 1) = mbit mask 3 := by
        rw [and_one, mbit, Bool.eq_iff_iff]
        simp
      have e1 : bits .andNot .u32 (m : Int) 4278190080 = ((m &&& (4294967295 ^^^ 4278190080) : Nat) : Int) := andnot32 m 4278190080 hm (by decide)
      have e2 : bits .and .u32 (data : Int) 4278190080 = ((data &&& 4278190080 : Nat) : Int) := and32 data 4278190080 hd (by decide)
      have e3 := or32 (m &&& (4294967295 ^^^ 4278190080)) (data &&& 4278190080) (Nat.lt_of_le_of_lt Nat.and_le_left hm) (Nat.lt_of_le_of_lt Nat.and_le_left hd)
      have hn := mstep_lt (k := 3) hm hd
      have hs : mstep m data 3 = (m &&& (4294967295 ^^^ 4278190080)) ||| (data &&& 4278190080) := rfl
      rw [← hs] at e3
      have HN : Hid (mrgK old data mask 4 = if mbit mask 3 then mstep m data 3 else m) := Lib.hid (by rw [HM.out]; rfl)
      clear hs
      generalize mstep m data 3 = m2 at e3 hn HN
      generalize m &&& (4294967295 ^^^ 4278190080) = p1 at e1 e3
      generalize data &&& 4278190080 = p2 at e2 e3
      cases hB : mbit mask 3
      · rw [hB] at hb HN
        clear hB e1 e2 e3
        go_wp2_with (fail)
        go_roundg (4 - 4)
        case measure => omega
        case rel => exact ⟨4, m, rfl, by omega, rfl, rfl, Lib.hid (by rw [HN.out]; rfl), hm, HW⟩
      · rw [hB] at hb HN
        clear hB
        go_wp2_with (fail)
        go_roundg (4 - 4)
        case measure => omega
        case rel => exact ⟨4, m2, rfl, by omega, rfl, rfl, Lib.hid (by rw [HN.out]; rfl), hn, HW⟩
    · go_wp2_with (fail)
      go_ret
      obtain rfl := HW.out
      exact ⟨by rw [HM.out]; rfl, rfl⟩
end Go.Proofs.Ytggjmdgonjhioaa
