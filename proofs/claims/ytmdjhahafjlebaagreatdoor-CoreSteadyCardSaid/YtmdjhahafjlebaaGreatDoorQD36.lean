/- The reference's bytes of words. -/
import Derived.Test.YtmdjhahafjlebaaGreatDoorQD25
import Derived.Deep.LoopGhost
import Derived.Test.YtmdjhahafjlebaaGreatDoorQD24
namespace Go.Proofs.YtmdjhahafjlebaaGreatDoor
open Go.RowKit Go.Dio
set_option linter.unusedSimpArgs false
set_option linter.unusedVariables false

def rstep (m x k : Nat) : Nat := m ||| (x &&& (255 * 2 ^ (8 * k)))
def rK (old data : Nat) (mask : Int) : Nat → Nat
  | 0 => 0
  | k + 1 => rstep (rK old data mask k) (if mbit mask k then data else old) k
theorem rstep_lt {m x k : Nat} (hm : m < 2 ^ 32) (hx : x < 2 ^ 32) : rstep m x k < 2 ^ 32 := Nat.or_lt_two_pow hm (Nat.lt_of_le_of_lt Nat.and_le_left hx)
theorem rK_bit (old data : Nat) (mask : Int) (i : Nat) : ∀ k, (rK old data mask k).testBit i = (decide (i < 8 * k) && (if mbit mask (i / 8) then data.testBit i else old.testBit i))
  | 0 => by simp [rK]
  | k + 1 => by
    rw [rK, rstep, Nat.testBit_or, Nat.testBit_and, rK_bit old data mask i k, byte_bit]
    rcases (by omega : i < 8 * k ∨ (8 * k ≤ i ∧ i < 8 * k + 8) ∨ 8 * k + 8 ≤ i) with h | ⟨h, h2⟩ | h
    · have a1 : decide (i < 8 * k) = true := decide_eq_true h
      have a2 : decide (8 * k ≤ i) = false := decide_eq_false (by omega)
      have a3 : decide (i < 8 * (k + 1)) = true := decide_eq_true (by omega)
      rw [a1, a2, a3]; simp
    · have a1 : decide (i < 8 * k) = false := decide_eq_false (by omega)
      have a2 : decide (8 * k ≤ i) = true := decide_eq_true h
      have a3 : decide (i < 8 * (k + 1)) = true := decide_eq_true (by omega)
      have a4 : decide (i - 8 * k < 8) = true := decide_eq_true (by omega)
      have a5 : i / 8 = k := by omega
      rw [a1, a2, a3, a4, a5]
      cases mbit mask k <;> simp
    · have a1 : decide (i < 8 * k) = false := decide_eq_false (by omega)
      have a3 : decide (i < 8 * (k + 1)) = false := decide_eq_false (by omega)
      have a4 : decide (i - 8 * k < 8) = false := decide_eq_false (by omega)
      rw [a1, a3, a4]; simp
theorem mstep_bit (m x k i : Nat) (hi : i < 32) : (mstep m x k).testBit i = (if 8 * k ≤ i ∧ i < 8 * k + 8 then x.testBit i else m.testBit i) := by
  rw [mstep, Nat.testBit_or, Nat.testBit_and, Nat.testBit_and, Nat.testBit_xor, all_bit, byte_bit, decide_eq_true hi]
  by_cases h : 8 * k ≤ i ∧ i < 8 * k + 8
  · have a2 : decide (8 * k ≤ i) = true := decide_eq_true h.1
    have a4 : decide (i - 8 * k < 8) = true := decide_eq_true (by omega)
    rw [if_pos h, a2, a4]; simp
  · rw [if_neg h]
    rcases (by omega : i < 8 * k ∨ 8 * k + 8 ≤ i) with h2 | h2
    · have a2 : decide (8 * k ≤ i) = false := decide_eq_false (by omega)
      rw [a2]; simp
    · have a4 : decide (i - 8 * k < 8) = false := decide_eq_false (by omega)
      rw [a4]; simp
theorem mrgK_bit (old data : Nat) (mask : Int) (i : Nat) (hi : i < 32) : ∀ k, (mrgK old data mask k).testBit i = (if i < 8 * k ∧ mbit mask (i / 8) = true then data.testBit i else old.testBit i)
  | 0 => by simp [mrgK]
  | k + 1 => by
    have ih := mrgK_bit old data mask i hi k
    by_cases hb : mbit mask k = true
    · rw [mrgK, if_pos hb, mstep_bit _ _ _ _ hi, ih]
      by_cases h : 8 * k ≤ i ∧ i < 8 * k + 8
      · have a5 : i / 8 = k := by omega
        rw [if_pos h, if_pos ⟨by omega, by rw [a5]; exact hb⟩]
      · rw [if_neg h]
        by_cases h2 : i < 8 * k
        · by_cases h3 : mbit mask (i / 8) = true
          · rw [if_pos ⟨h2, h3⟩, if_pos ⟨by omega, h3⟩]
          · rw [if_neg (fun h => h3 h.2), if_neg (fun h => h3 h.2)]
        · rw [if_neg (fun h => h2 h.1), if_neg (fun h => by omega)]
    · rw [mrgK, if_neg hb, ih]
      by_cases h3 : mbit mask (i / 8) = true
      · by_cases h2 : i < 8 * k
        · rw [if_pos ⟨h2, h3⟩, if_pos ⟨by omega, h3⟩]
        · have : ¬ i < 8 * (k + 1) := fun h => by
            have a5 : i / 8 = k := by omega
            rw [a5] at h3
            exact hb h3
          rw [if_neg (fun h => h2 h.1), if_neg (fun h => this h.1)]
      · rw [if_neg (fun h => h3 h.2), if_neg (fun h => h3 h.2)]
theorem rK_lt {old data : Nat} {mask : Int} (ho : old < 2 ^ 32) (hd : data < 2 ^ 32) : ∀ k, rK old data mask k < 2 ^ 32
  | 0 => by show 0 < 2 ^ 32; decide
  | k + 1 => by
    rw [rK]
    refine rstep_lt (rK_lt ho hd k) ?_
    split
    · exact hd
    · exact ho
theorem rK_eq {old data : Nat} {mask : Int} (ho : old < 2 ^ 32) (hd : data < 2 ^ 32) : rK old data mask 4 = mrg old data mask := by
  apply Nat.eq_of_testBit_eq
  intro i
  by_cases hi : i < 32
  · rw [mrg, mrgK_bit old data mask i hi 4, rK_bit]
    have a : decide (i < 8 * 4) = true := decide_eq_true (by omega)
    rw [a]
    by_cases h3 : mbit mask (i / 8) = true
    · rw [if_pos h3, if_pos ⟨by omega, h3⟩]; rfl
    · rw [if_neg h3, if_neg (fun h => h3 h.2)]; rfl
  · have h2 : 2 ^ 32 ≤ 2 ^ i := Nat.pow_le_pow_right (by decide) (by omega)
    rw [mrg, Nat.testBit_lt_two_pow (Nat.lt_of_lt_of_le (rK_lt ho hd 4) h2), Nat.testBit_lt_two_pow (Nat.lt_of_lt_of_le (mrgK_lt ho hd 4) h2)]
set_option maxHeartbeats 1000000 in
theorem r7merge_calls (old data : Nat) (mask : Int) (w : World) (ho : old < 2 ^ 32) (hd : data < 2 ^ 32) :
    Calls Tryz.prog 59 #[.int .u32 (old : Int), .int .u32 (data : Int), .int .i64 mask] w fun e w' => e = .returned (.int .u32 (mrg old data mask : Int)) ∧ w' = w := by
  go_enter Tryz.func59, Tryz.ntmps59
  go_wp2_with (fail)
  go_loopg [7, 8] 4 (fun g v7 v8 wl => ∃ (k m : Nat), v8 = .int .u64 (k : Int) ∧ k ≤ 4 ∧ g = 4 - k ∧ v7 = .int .u32 (m : Int) ∧ Hid (m = rK old data mask k) ∧ m < 2 ^ 32 ∧ Hid (wl = w))
  case atStart => exact ⟨0, 0, rfl, by omega, rfl, rfl, Lib.hid rfl, by decide, Lib.hid rfl⟩
  case round =>
    obtain ⟨k, m, rfl, hk, hg, rfl, HM, hm, HW⟩ := hrel
    rcases (by omega : k = 0 ∨ k = 1 ∨ k = 2 ∨ k = 3 ∨ k = 4) with rfl | rfl | rfl | rfl | rfl
    · skip
      have hb : (bits .and .i64 mask 1 == 1) = mbit mask 0 := by
        rw [and_one, mbit, Bool.eq_iff_iff]
        simp
      have e2 : bits .and .u32 (data : Int) 255 = ((data &&& 255 : Nat) : Int) := and32 data 255 hd (by decide)
      have e4 : bits .and .u32 (old : Int) 255 = ((old &&& 255 : Nat) : Int) := and32 old 255 ho (by decide)
      have e3 := or32 m (data &&& 255) hm (Nat.lt_of_le_of_lt Nat.and_le_left hd)
      have e5 := or32 m (old &&& 255) hm (Nat.lt_of_le_of_lt Nat.and_le_left ho)
      have hn := rstep_lt (k := 0) hm hd
      have hn2 := rstep_lt (k := 0) hm ho
      have hs : rstep m data 0 = m ||| (data &&& 255) := rfl
      have hs2 : rstep m old 0 = m ||| (old &&& 255) := rfl
      rw [← hs] at e3
      rw [← hs2] at e5
      have HN : Hid (rK old data mask 1 = rstep m (if mbit mask 0 then data else old) 0) := Lib.hid (by rw [HM.out]; rfl)
      clear hs hs2
      cases hB : mbit mask 0
      · rw [hB] at hb HN
        replace HN : Hid (rK old data mask 1 = rstep m old 0) := HN
        clear hB e2 e3 hn
        generalize rstep m old 0 = m3 at *
        generalize old &&& 255 = p3 at *
        go_wp2_with (fail)
        go_roundg (4 - 1)
        case measure => omega
        case rel => exact ⟨1, m3, rfl, by omega, rfl, rfl, Lib.hid (by rw [HN.out]), hn2, HW⟩
      · rw [hB] at hb HN
        replace HN : Hid (rK old data mask 1 = rstep m data 0) := HN
        clear hB e4 e5 hn2
        generalize rstep m data 0 = m2 at *
        generalize data &&& 255 = p2 at *
        go_wp2_with (fail)
        go_roundg (4 - 1)
        case measure => omega
        case rel => exact ⟨1, m2, rfl, by omega, rfl, rfl, Lib.hid (by rw [HN.out]), hn, HW⟩
    · skip
      have hb : (bits .and .i64 (mask / 2) 1 == 1) = mbit mask 1 := by
        rw [and_one, mbit, Bool.eq_iff_iff]
        simp
      have e2 : bits .and .u32 (data : Int) 65280 = ((data &&& 65280 : Nat) : Int) := and32 data 65280 hd (by decide)
      have e4 : bits .and .u32 (old : Int) 65280 = ((old &&& 65280 : Nat) : Int) := and32 old 65280 ho (by decide)
      have e3 := or32 m (data &&& 65280) hm (Nat.lt_of_le_of_lt Nat.and_le_left hd)
      have e5 := or32 m (old &&& 65280) hm (Nat.lt_of_le_of_lt Nat.and_le_left ho)
      have hn := rstep_lt (k := 1) hm hd
      have hn2 := rstep_lt (k := 1) hm ho
      have hs : rstep m data 1 = m ||| (data &&& 65280) := rfl
      have hs2 : rstep m old 1 = m ||| (old &&& 65280) := rfl
      rw [← hs] at e3
      rw [← hs2] at e5
      have HN : Hid (rK old data mask 2 = rstep m (if mbit mask 1 then data else old) 1) := Lib.hid (by rw [HM.out]; rfl)
      clear hs hs2
      cases hB : mbit mask 1
      · rw [hB] at hb HN
        replace HN : Hid (rK old data mask 2 = rstep m old 1) := HN
        clear hB e2 e3 hn
        generalize rstep m old 1 = m3 at *
        generalize old &&& 65280 = p3 at *
        go_wp2_with (fail)
        go_roundg (4 - 2)
        case measure => omega
        case rel => exact ⟨2, m3, rfl, by omega, rfl, rfl, Lib.hid (by rw [HN.out]), hn2, HW⟩
      · rw [hB] at hb HN
        replace HN : Hid (rK old data mask 2 = rstep m data 1) := HN
        clear hB e4 e5 hn2
        generalize rstep m data 1 = m2 at *
        generalize data &&& 65280 = p2 at *
        go_wp2_with (fail)
        go_roundg (4 - 2)
        case measure => omega
        case rel => exact ⟨2, m2, rfl, by omega, rfl, rfl, Lib.hid (by rw [HN.out]), hn, HW⟩
    · skip
      have hb : (bits .and .i64 (mask / 4) 1 == 1) = mbit mask 2 := by
        rw [and_one, mbit, Bool.eq_iff_iff]
        simp
      have e2 : bits .and .u32 (data : Int) 16711680 = ((data &&& 16711680 : Nat) : Int) := and32 data 16711680 hd (by decide)
      have e4 : bits .and .u32 (old : Int) 16711680 = ((old &&& 16711680 : Nat) : Int) := and32 old 16711680 ho (by decide)
      have e3 := or32 m (data &&& 16711680) hm (Nat.lt_of_le_of_lt Nat.and_le_left hd)
      have e5 := or32 m (old &&& 16711680) hm (Nat.lt_of_le_of_lt Nat.and_le_left ho)
      have hn := rstep_lt (k := 2) hm hd
      have hn2 := rstep_lt (k := 2) hm ho
      have hs : rstep m data 2 = m ||| (data &&& 16711680) := rfl
      have hs2 : rstep m old 2 = m ||| (old &&& 16711680) := rfl
      rw [← hs] at e3
      rw [← hs2] at e5
      have HN : Hid (rK old data mask 3 = rstep m (if mbit mask 2 then data else old) 2) := Lib.hid (by rw [HM.out]; rfl)
      clear hs hs2
      cases hB : mbit mask 2
      · rw [hB] at hb HN
        replace HN : Hid (rK old data mask 3 = rstep m old 2) := HN
        clear hB e2 e3 hn
        generalize rstep m old 2 = m3 at *
        generalize old &&& 16711680 = p3 at *
        go_wp2_with (fail)
        go_roundg (4 - 3)
        case measure => omega
        case rel => exact ⟨3, m3, rfl, by omega, rfl, rfl, Lib.hid (by rw [HN.out]), hn2, HW⟩
      · rw [hB] at hb HN
        replace HN : Hid (rK old data mask 3 = rstep m data 2) := HN
        clear hB e4 e5 hn2
        generalize rstep m data 2 = m2 at *
        generalize data &&& 16711680 = p2 at *
        go_wp2_with (fail)
        go_roundg (4 - 3)
        case measure => omega
        case rel => exact ⟨3, m2, rfl, by omega, rfl, rfl, Lib.hid (by rw [HN.out]), hn, HW⟩
    · skip
      have hb : (bits .and .i64 (mask / 8) 1 == 1) = mbit mask 3 := by
        rw [and_one, mbit, Bool.eq_iff_iff]
        simp
      have e2 : bits .and .u32 (data : Int) 4278190080 = ((data &&& 4278190080 : Nat) : Int) := and32 data 4278190080 hd (by decide)
      have e4 : bits .and .u32 (old : Int) 4278190080 = ((old &&& 4278190080 : Nat) : Int) := and32 old 4278190080 ho (by decide)
      have e3 := or32 m (data &&& 4278190080) hm (Nat.lt_of_le_of_lt Nat.and_le_left hd)
      have e5 := or32 m (old &&& 4278190080) hm (Nat.lt_of_le_of_lt Nat.and_le_left ho)
      have hn := rstep_lt (k := 3) hm hd
      have hn2 := rstep_lt (k := 3) hm ho
      have hs : rstep m data 3 = m ||| (data &&& 4278190080) := rfl
      have hs2 : rstep m old 3 = m ||| (old &&& 4278190080) := rfl
      rw [← hs] at e3
      rw [← hs2] at e5
      have HN : Hid (rK old data mask 4 = rstep m (if mbit mask 3 then data else old) 3) := Lib.hid (by rw [HM.out]; rfl)
      clear hs hs2
      cases hB : mbit mask 3
      · rw [hB] at hb HN
        replace HN : Hid (rK old data mask 4 = rstep m old 3) := HN
        clear hB e2 e3 hn
        generalize rstep m old 3 = m3 at *
        generalize old &&& 4278190080 = p3 at *
        go_wp2_with (fail)
        go_roundg (4 - 4)
        case measure => omega
        case rel => exact ⟨4, m3, rfl, by omega, rfl, rfl, Lib.hid (by rw [HN.out]), hn2, HW⟩
      · rw [hB] at hb HN
        replace HN : Hid (rK old data mask 4 = rstep m data 3) := HN
        clear hB e4 e5 hn2
        generalize rstep m data 3 = m2 at *
        generalize data &&& 4278190080 = p2 at *
        go_wp2_with (fail)
        go_roundg (4 - 4)
        case measure => omega
        case rel => exact ⟨4, m2, rfl, by omega, rfl, rfl, Lib.hid (by rw [HN.out]), hn, HW⟩
    · go_wp2_with (fail)
      go_ret
      obtain rfl := HW.out
      exact ⟨by rw [HM.out, rK_eq ho hd]; rfl, rfl⟩
end Go.Proofs.YtmdjhahafjlebaaGreatDoor

namespace Go.Proofs.YtmdjhahafjlebaaGreatDoor
open Go.RowKit Go.Dio
set_option linter.unusedSimpArgs false
set_option linter.unusedVariables false

theorem sh_u32 (y c : Nat) (h : y * c < 2 ^ 32) : IntKind.u32.wrap ((y : Int) * (c : Int)) = ((y * c : Nat) : Int) ∧ ((y : Int) * (c : Int)) % 4294967296 = ((y * c : Nat) : Int) := by
  have e : ((y : Int) * (c : Int)) = ((y * c : Nat) : Int) := by push_cast; rfl
  rw [e, IntKind.wrap_u32]
  constructor <;> omega
set_option maxHeartbeats 1000000 in
theorem r7store_calls (op addr n : Nat) (z : World) (ho : 16 ≤ op ∧ op ≤ 18) (ha : addr < 2 ^ 32) (hn : n < 2 ^ 32) (hf : fitsP op addr = true) :
    Calls Tryz.prog 133 #[.int .i64 (op : Int), .int .u32 (addr : Int), .int .u32 (n : Int)] z fun e z' => e = .returned (.tuple #[.int .u32 ((storeD op addr n : Nat) : Int), .int .i64 ((storeM op addr : Nat) : Int)]) ∧ z' = z := by
  rcases (by omega : op = 16 ∨ op = 17 ∨ op = 18) with rfl | rfl | rfl
  · rcases (by omega : addr % 4 = 0 ∨ addr % 4 = 1 ∨ addr % 4 = 2 ∨ addr % 4 = 3) with hk | hk | hk | hk
    · skip
      have l4 : bits .and .u32 (addr : Int) 3 = 0 := by rw [low4 addr ha, hk]; rfl
      have S : Hid (∀ z : World, Calls Tryz.prog 96 #[.int .i64 16] z fun e z' => e = .returned (.int .i64 1) ∧ z' = z) := Lib.hid (fun z => r7size_calls 16 z (by decide))
      have F : Hid (∀ z : World, Calls Tryz.prog 150 #[.int .i64 16, .int .u32 (addr : Int)] z fun e z' => e = .returned (.bool true) ∧ z' = z) := Lib.hid (fun z => by have := r7fits_calls 16 addr z (by decide) ha; rwa [hf] at this)
      have HD := Lib.hid (show storeD 16 addr n = n % 2 ^ (8 * 1) * 2 ^ (0 * 8) from by unfold storeD; rw [if_neg (by rw [hf]; decide), hk]; rfl)
      have HM := Lib.hid (show storeM 16 addr = (2 ^ 1 - 1) * 2 ^ 0 from by unfold storeM; rw [if_neg (by rw [hf]; decide), hk]; rfl)
      clear hf hk
      have v0 : bits .and .u32 (n : Int) 255 = ((n % 256 : Nat) : Int) := lo_and n 8 hn (by decide)
      have hy : n % 256 < 256 := Nat.mod_lt _ (by decide)
      replace HD : Hid (storeD 16 addr n = n % 256 * 1) := HD
      generalize n % 256 = y at *
      rw [Nat.mul_one] at HD
      go_enter Tryz.func133, Tryz.ntmps133
      go_wp2_with (fail)
      refine (F.out _).mono ?_
      rintro e z1 ⟨rfl, rfl⟩
      go_wp2_with (fail)
      refine (S.out _).mono ?_
      rintro e z1 ⟨rfl, rfl⟩
      go_wp2_with (fail)
      refine (S.out _).mono ?_
      rintro e z1 ⟨rfl, rfl⟩
      go_wp2_with (fail)
      refine (S.out _).mono ?_
      rintro e z1 ⟨rfl, rfl⟩
      go_wp2_with (fail)
      go_ret2
      exact ⟨by rw [HD.out, HM.out]; rfl, rfl⟩
    · skip
      have l4 : bits .and .u32 (addr : Int) 3 = 1 := by rw [low4 addr ha, hk]; rfl
      have S : Hid (∀ z : World, Calls Tryz.prog 96 #[.int .i64 16] z fun e z' => e = .returned (.int .i64 1) ∧ z' = z) := Lib.hid (fun z => r7size_calls 16 z (by decide))
      have F : Hid (∀ z : World, Calls Tryz.prog 150 #[.int .i64 16, .int .u32 (addr : Int)] z fun e z' => e = .returned (.bool true) ∧ z' = z) := Lib.hid (fun z => by have := r7fits_calls 16 addr z (by decide) ha; rwa [hf] at this)
      have HD := Lib.hid (show storeD 16 addr n = n % 2 ^ (8 * 1) * 2 ^ (1 * 8) from by unfold storeD; rw [if_neg (by rw [hf]; decide), hk]; rfl)
      have HM := Lib.hid (show storeM 16 addr = (2 ^ 1 - 1) * 2 ^ 1 from by unfold storeM; rw [if_neg (by rw [hf]; decide), hk]; rfl)
      clear hf hk
      have v0 : bits .and .u32 (n : Int) 255 = ((n % 256 : Nat) : Int) := lo_and n 8 hn (by decide)
      have hy : n % 256 < 256 := Nat.mod_lt _ (by decide)
      replace HD : Hid (storeD 16 addr n = n % 256 * 256) := HD
      generalize n % 256 = y at *
      have v1 := (sh_u32 y 256 (by omega)).1
      have v2 := (sh_u32 y 256 (by omega)).2
      rw [show ((256 : Nat) : Int) = 256 from rfl] at v1 v2
      generalize y * 256 = D at *
      go_enter Tryz.func133, Tryz.ntmps133
      go_wp2_with (fail)
      refine (F.out _).mono ?_
      rintro e z1 ⟨rfl, rfl⟩
      go_wp2_with (fail)
      refine (S.out _).mono ?_
      rintro e z1 ⟨rfl, rfl⟩
      go_wp2_with (fail)
      refine (S.out _).mono ?_
      rintro e z1 ⟨rfl, rfl⟩
      go_wp2_with (fail)
      refine (S.out _).mono ?_
      rintro e z1 ⟨rfl, rfl⟩
      go_wp2_with (fail)
      go_ret2
      exact ⟨by rw [HD.out, HM.out]; rfl, rfl⟩
    · skip
      have l4 : bits .and .u32 (addr : Int) 3 = 2 := by rw [low4 addr ha, hk]; rfl
      have S : Hid (∀ z : World, Calls Tryz.prog 96 #[.int .i64 16] z fun e z' => e = .returned (.int .i64 1) ∧ z' = z) := Lib.hid (fun z => r7size_calls 16 z (by decide))
      have F : Hid (∀ z : World, Calls Tryz.prog 150 #[.int .i64 16, .int .u32 (addr : Int)] z fun e z' => e = .returned (.bool true) ∧ z' = z) := Lib.hid (fun z => by have := r7fits_calls 16 addr z (by decide) ha; rwa [hf] at this)
      have HD := Lib.hid (show storeD 16 addr n = n % 2 ^ (8 * 1) * 2 ^ (2 * 8) from by unfold storeD; rw [if_neg (by rw [hf]; decide), hk]; rfl)
      have HM := Lib.hid (show storeM 16 addr = (2 ^ 1 - 1) * 2 ^ 2 from by unfold storeM; rw [if_neg (by rw [hf]; decide), hk]; rfl)
      clear hf hk
      have v0 : bits .and .u32 (n : Int) 255 = ((n % 256 : Nat) : Int) := lo_and n 8 hn (by decide)
      have hy : n % 256 < 256 := Nat.mod_lt _ (by decide)
      replace HD : Hid (storeD 16 addr n = n % 256 * 65536) := HD
      generalize n % 256 = y at *
      have v1 := (sh_u32 y 65536 (by omega)).1
      have v2 := (sh_u32 y 65536 (by omega)).2
      rw [show ((65536 : Nat) : Int) = 65536 from rfl] at v1 v2
      generalize y * 65536 = D at *
      go_enter Tryz.func133, Tryz.ntmps133
      go_wp2_with (fail)
      refine (F.out _).mono ?_
      rintro e z1 ⟨rfl, rfl⟩
      go_wp2_with (fail)
      refine (S.out _).mono ?_
      rintro e z1 ⟨rfl, rfl⟩
      go_wp2_with (fail)
      refine (S.out _).mono ?_
      rintro e z1 ⟨rfl, rfl⟩
      go_wp2_with (fail)
      refine (S.out _).mono ?_
      rintro e z1 ⟨rfl, rfl⟩
      go_wp2_with (fail)
      go_ret2
      exact ⟨by rw [HD.out, HM.out]; rfl, rfl⟩
    · skip
      have l4 : bits .and .u32 (addr : Int) 3 = 3 := by rw [low4 addr ha, hk]; rfl
      have S : Hid (∀ z : World, Calls Tryz.prog 96 #[.int .i64 16] z fun e z' => e = .returned (.int .i64 1) ∧ z' = z) := Lib.hid (fun z => r7size_calls 16 z (by decide))
      have F : Hid (∀ z : World, Calls Tryz.prog 150 #[.int .i64 16, .int .u32 (addr : Int)] z fun e z' => e = .returned (.bool true) ∧ z' = z) := Lib.hid (fun z => by have := r7fits_calls 16 addr z (by decide) ha; rwa [hf] at this)
      have HD := Lib.hid (show storeD 16 addr n = n % 2 ^ (8 * 1) * 2 ^ (3 * 8) from by unfold storeD; rw [if_neg (by rw [hf]; decide), hk]; rfl)
      have HM := Lib.hid (show storeM 16 addr = (2 ^ 1 - 1) * 2 ^ 3 from by unfold storeM; rw [if_neg (by rw [hf]; decide), hk]; rfl)
      clear hf hk
      have v0 : bits .and .u32 (n : Int) 255 = ((n % 256 : Nat) : Int) := lo_and n 8 hn (by decide)
      have hy : n % 256 < 256 := Nat.mod_lt _ (by decide)
      replace HD : Hid (storeD 16 addr n = n % 256 * 16777216) := HD
      generalize n % 256 = y at *
      have v1 := (sh_u32 y 16777216 (by omega)).1
      have v2 := (sh_u32 y 16777216 (by omega)).2
      rw [show ((16777216 : Nat) : Int) = 16777216 from rfl] at v1 v2
      generalize y * 16777216 = D at *
      go_enter Tryz.func133, Tryz.ntmps133
      go_wp2_with (fail)
      refine (F.out _).mono ?_
      rintro e z1 ⟨rfl, rfl⟩
      go_wp2_with (fail)
      refine (S.out _).mono ?_
      rintro e z1 ⟨rfl, rfl⟩
      go_wp2_with (fail)
      refine (S.out _).mono ?_
      rintro e z1 ⟨rfl, rfl⟩
      go_wp2_with (fail)
      refine (S.out _).mono ?_
      rintro e z1 ⟨rfl, rfl⟩
      go_wp2_with (fail)
      go_ret2
      exact ⟨by rw [HD.out, HM.out]; rfl, rfl⟩
  · have h2 := fits2 hf rfl
    rcases (by omega : addr % 4 = 0 ∨ addr % 4 = 2) with hk | hk
    · skip
      have l4 : bits .and .u32 (addr : Int) 3 = 0 := by rw [low4 addr ha, hk]; rfl
      have S : Hid (∀ z : World, Calls Tryz.prog 96 #[.int .i64 17] z fun e z' => e = .returned (.int .i64 2) ∧ z' = z) := Lib.hid (fun z => r7size_calls 17 z (by decide))
      have F : Hid (∀ z : World, Calls Tryz.prog 150 #[.int .i64 17, .int .u32 (addr : Int)] z fun e z' => e = .returned (.bool true) ∧ z' = z) := Lib.hid (fun z => by have := r7fits_calls 17 addr z (by decide) ha; rwa [hf] at this)
      have HD := Lib.hid (show storeD 17 addr n = n % 2 ^ (8 * 2) * 2 ^ (0 * 8) from by unfold storeD; rw [if_neg (by rw [hf]; decide), hk]; rfl)
      have HM := Lib.hid (show storeM 17 addr = (2 ^ 2 - 1) * 2 ^ 0 from by unfold storeM; rw [if_neg (by rw [hf]; decide), hk]; rfl)
      clear hf hk
      have v0 : bits .and .u32 (n : Int) 65535 = ((n % 65536 : Nat) : Int) := lo_and n 16 hn (by decide)
      have hy : n % 65536 < 65536 := Nat.mod_lt _ (by decide)
      replace HD : Hid (storeD 17 addr n = n % 65536 * 1) := HD
      generalize n % 65536 = y at *
      rw [Nat.mul_one] at HD
      go_enter Tryz.func133, Tryz.ntmps133
      go_wp2_with (fail)
      refine (F.out _).mono ?_
      rintro e z1 ⟨rfl, rfl⟩
      go_wp2_with (fail)
      refine (S.out _).mono ?_
      rintro e z1 ⟨rfl, rfl⟩
      go_wp2_with (fail)
      refine (S.out _).mono ?_
      rintro e z1 ⟨rfl, rfl⟩
      go_wp2_with (fail)
      refine (S.out _).mono ?_
      rintro e z1 ⟨rfl, rfl⟩
      go_wp2_with (fail)
      go_ret2
      exact ⟨by rw [HD.out, HM.out]; rfl, rfl⟩
    · skip
      have l4 : bits .and .u32 (addr : Int) 3 = 2 := by rw [low4 addr ha, hk]; rfl
      have S : Hid (∀ z : World, Calls Tryz.prog 96 #[.int .i64 17] z fun e z' => e = .returned (.int .i64 2) ∧ z' = z) := Lib.hid (fun z => r7size_calls 17 z (by decide))
      have F : Hid (∀ z : World, Calls Tryz.prog 150 #[.int .i64 17, .int .u32 (addr : Int)] z fun e z' => e = .returned (.bool true) ∧ z' = z) := Lib.hid (fun z => by have := r7fits_calls 17 addr z (by decide) ha; rwa [hf] at this)
      have HD := Lib.hid (show storeD 17 addr n = n % 2 ^ (8 * 2) * 2 ^ (2 * 8) from by unfold storeD; rw [if_neg (by rw [hf]; decide), hk]; rfl)
      have HM := Lib.hid (show storeM 17 addr = (2 ^ 2 - 1) * 2 ^ 2 from by unfold storeM; rw [if_neg (by rw [hf]; decide), hk]; rfl)
      clear hf hk
      have v0 : bits .and .u32 (n : Int) 65535 = ((n % 65536 : Nat) : Int) := lo_and n 16 hn (by decide)
      have hy : n % 65536 < 65536 := Nat.mod_lt _ (by decide)
      replace HD : Hid (storeD 17 addr n = n % 65536 * 65536) := HD
      generalize n % 65536 = y at *
      have v1 := (sh_u32 y 65536 (by omega)).1
      have v2 := (sh_u32 y 65536 (by omega)).2
      rw [show ((65536 : Nat) : Int) = 65536 from rfl] at v1 v2
      generalize y * 65536 = D at *
      go_enter Tryz.func133, Tryz.ntmps133
      go_wp2_with (fail)
      refine (F.out _).mono ?_
      rintro e z1 ⟨rfl, rfl⟩
      go_wp2_with (fail)
      refine (S.out _).mono ?_
      rintro e z1 ⟨rfl, rfl⟩
      go_wp2_with (fail)
      refine (S.out _).mono ?_
      rintro e z1 ⟨rfl, rfl⟩
      go_wp2_with (fail)
      refine (S.out _).mono ?_
      rintro e z1 ⟨rfl, rfl⟩
      go_wp2_with (fail)
      go_ret2
      exact ⟨by rw [HD.out, HM.out]; rfl, rfl⟩
  · have hk := fits4 hf rfl
    case _ =>
      have l4 : bits .and .u32 (addr : Int) 3 = 0 := by rw [low4 addr ha, hk]; rfl
      have S : Hid (∀ z : World, Calls Tryz.prog 96 #[.int .i64 18] z fun e z' => e = .returned (.int .i64 4) ∧ z' = z) := Lib.hid (fun z => r7size_calls 18 z (by decide))
      have F : Hid (∀ z : World, Calls Tryz.prog 150 #[.int .i64 18, .int .u32 (addr : Int)] z fun e z' => e = .returned (.bool true) ∧ z' = z) := Lib.hid (fun z => by have := r7fits_calls 18 addr z (by decide) ha; rwa [hf] at this)
      have HD := Lib.hid (show storeD 18 addr n = n % 2 ^ (8 * 4) * 2 ^ (0 * 8) from by unfold storeD; rw [if_neg (by rw [hf]; decide), hk]; rfl)
      have HM := Lib.hid (show storeM 18 addr = (2 ^ 4 - 1) * 2 ^ 0 from by unfold storeM; rw [if_neg (by rw [hf]; decide), hk]; rfl)
      clear hf hk
      rw [Nat.mod_eq_of_lt (show n < 2 ^ (8 * 4) from hn), show (2 : Nat) ^ (0 * 8) = 1 from rfl] at HD
      have hy : n < 2 ^ 32 := hn
      generalize n = y at *
      rw [Nat.mul_one] at HD
      go_enter Tryz.func133, Tryz.ntmps133
      go_wp2_with (fail)
      refine (F.out _).mono ?_
      rintro e z1 ⟨rfl, rfl⟩
      go_wp2_with (fail)
      refine (S.out _).mono ?_
      rintro e z1 ⟨rfl, rfl⟩
      go_wp2_with (fail)
      refine (S.out _).mono ?_
      rintro e z1 ⟨rfl, rfl⟩
      go_wp2_with (fail)
      refine (S.out _).mono ?_
      rintro e z1 ⟨rfl, rfl⟩
      go_wp2_with (fail)
      go_ret2
      exact ⟨by rw [HD.out, HM.out]; rfl, rfl⟩
end Go.Proofs.YtmdjhahafjlebaaGreatDoor
