/- The walk's spellings of '&', '|', '^' on whole numbers that are not below 0. -/
import Derived.Test.YtmdjhahafjlebaaGreatDoorQD01
import Derived.Laws.BitsLemmas
import Derived.WalkKit
import Derived.Test.YtmdjhahafjlebaaGreatDoorProg
import Derived.Deep.LoopGhost
import Derived.Test.YtmdjhahafjlebaaGreatDoorQD02
import Derived.Laws.Rows
namespace Go.Dio

theorem wrap64 {n : Int} (h₀ : 0 ≤ n) (h₁ : n < 2 ^ 64) : IntKind.u64.wrap n = n := by
  simp only [IntKind.wrap, IntKind.bits, IntKind.signed]; simp; omega
theorem wrapi64 {n : Int} (h₀ : 0 ≤ n) (h₁ : n < 2 ^ 63) : IntKind.i64.wrap n = n := by rw [IntKind.wrap_i64]; omega
theorem wrap32 {n : Int} (h₀ : 0 ≤ n) (h₁ : n < 2 ^ 32) : IntKind.u32.wrap n = n := by rw [IntKind.wrap_u32]; omega

theorem bits_xor_nat (k : IntKind) (j : Nat) (hj : j ≤ k.bits) (hk : ∀ n : Int, 0 ≤ n → n < 2 ^ j → k.wrap n = n) (a b : Nat) (ha : a < 2 ^ j) (hb : b < 2 ^ j) : bits .xor k a b = ((a ^^^ b : Nat) : Int) := by
  have hp : 2 ^ j ≤ 2 ^ k.bits := Nat.pow_le_pow_right (by decide) hj
  have ha' : a % 2 ^ k.bits = a := Nat.mod_eq_of_lt (Nat.lt_of_lt_of_le ha hp)
  have hb' : b % 2 ^ k.bits = b := Nat.mod_eq_of_lt (Nat.lt_of_lt_of_le hb hp)
  simp only [bits, BitVec.ofInt_natCast, BitVec.toNat_xor, BitVec.toNat_ofNat, ha', hb']
  exact hk _ (Int.natCast_nonneg _) (by exact_mod_cast Nat.xor_lt_two_pow ha hb)

theorem and64 (a b : Nat) (ha : a < 2 ^ 64) (hb : b < 2 ^ 64) : bits .and .u64 (a : Int) (b : Int) = ((a &&& b : Nat) : Int) := (bits_nat .u64 64 (by decide) (fun _ h h' => wrap64 h h') a b ha hb).1
theorem or64 (a b : Nat) (ha : a < 2 ^ 64) (hb : b < 2 ^ 64) : bits .or .u64 (a : Int) (b : Int) = ((a ||| b : Nat) : Int) := (bits_nat .u64 64 (by decide) (fun _ h h' => wrap64 h h') a b ha hb).2
theorem xor64 (a b : Nat) (ha : a < 2 ^ 64) (hb : b < 2 ^ 64) : bits .xor .u64 (a : Int) (b : Int) = ((a ^^^ b : Nat) : Int) := bits_xor_nat .u64 64 (by decide) (fun _ h h' => wrap64 h h') a b ha hb
theorem xor8 (a b : Nat) (ha : a < 2 ^ 8) (hb : b < 2 ^ 8) : bits .xor .u8 (a : Int) (b : Int) = ((a ^^^ b : Nat) : Int) := bits_xor_nat .u8 8 (by decide) wraps_u8 a b ha hb
theorem xor32 (a b : Nat) (ha : a < 2 ^ 32) (hb : b < 2 ^ 32) : bits .xor .u32 (a : Int) (b : Int) = ((a ^^^ b : Nat) : Int) := bits_xor_nat .u32 32 (by decide) (fun _ h h' => wrap32 h h') a b ha hb
theorem and32 (a b : Nat) (ha : a < 2 ^ 32) (hb : b < 2 ^ 32) : bits .and .u32 (a : Int) (b : Int) = ((a &&& b : Nat) : Int) := (bits_nat .u32 32 (by decide) (fun _ h h' => wrap32 h h') a b ha hb).1
theorem or32 (a b : Nat) (ha : a < 2 ^ 32) (hb : b < 2 ^ 32) : bits .or .u32 (a : Int) (b : Int) = ((a ||| b : Nat) : Int) := (bits_nat .u32 32 (by decide) (fun _ h h' => wrap32 h h') a b ha hb).2
theorem xori (a b : Nat) (ha : a < 2 ^ 63) (hb : b < 2 ^ 63) : bits .xor .i64 (a : Int) (b : Int) = ((a ^^^ b : Nat) : Int) := bits_xor_nat .i64 63 (by decide) (fun _ h h' => wrapi64 h h') a b ha hb
theorem andi (a b : Nat) (ha : a < 2 ^ 63) (hb : b < 2 ^ 63) : bits .and .i64 (a : Int) (b : Int) = ((a &&& b : Nat) : Int) := (bits_nat .i64 63 (by decide) (fun _ h h' => wrapi64 h h') a b ha hb).1

theorem and_low {a : Nat} (h0 : 0 < a) (ha : a < 2 ^ 64) : bits .and .u64 (a : Int) ((a : Int) - 1) = ((low a : Nat) : Int) := by
  have e : (a : Int) - 1 = ((a - 1 : Nat) : Int) := by omega
  rw [e, and64 a _ ha (by omega)]; rfl
theorem and_whole {a : Nat} (ha : a < 2 ^ 64) : bits .and .u64 (a : Int) 549755813887 = ((a % 2 ^ 39 : Nat) : Int) := by
  have e : (549755813887 : Int) = ((2 ^ 39 - 1 : Nat) : Int) := by decide
  rw [e, and64 a _ ha (by decide), Nat.and_two_pow_sub_one_eq_mod]
/-- A number's low bits in int, whatever its sign: 'a & 63'. -/
theorem andi63 (a : Int) : ∃ n : Nat, n < 64 ∧ bits .and .i64 a 63 = (n : Int) := by
  have e : bits .and .i64 a 63 = IntKind.i64.wrap (((BitVec.ofInt 64 a) &&& (BitVec.ofInt 64 63)).toNat : Int) := rfl
  have h63 : (BitVec.ofInt 64 63 : BitVec 64).toNat = 2 ^ 6 - 1 := by decide
  rw [BitVec.toNat_and, h63, Nat.and_two_pow_sub_one_eq_mod] at e
  have hl : (BitVec.ofInt 64 a).toNat % 2 ^ 6 < 64 := Nat.mod_lt _ (by decide)
  refine ⟨(BitVec.ofInt 64 a).toNat % 2 ^ 6, hl, ?_⟩
  rw [e]
  exact wrapi64 (Int.natCast_nonneg _) (by omega)
theorem pow64 (i : Nat) (h : i < 64) : IntKind.u64.wrap ((2 : Int) ^ i) = (2 : Int) ^ i := by
  have h1 : (2 ^ i : Nat) < 2 ^ 64 := Nat.pow_lt_pow_right (by decide) h
  have e : ((2 : Int) ^ i) = ((2 ^ i : Nat) : Int) := by simp
  rw [e]
  exact wrap64 (Int.natCast_nonneg _) (by exact_mod_cast h1)
theorem xor_pow (m i : Nat) (hm : m < 2 ^ 64) (h : i < 64) : bits .xor .u64 (m : Int) ((2 : Int) ^ i) = ((m ^^^ 2 ^ i : Nat) : Int) := by
  have h1 : (2 ^ i : Nat) < 2 ^ 64 := Nat.pow_lt_pow_right (by decide) h
  have e : ((2 : Int) ^ i) = ((2 ^ i : Nat) : Int) := by simp
  rw [e]
  exact xor64 m _ hm h1
theorem or_high (n s : Nat) (hn : n < 2 ^ 64) (hs : s < 4294967296) : bits .or .u64 (n : Int) ((s : Int) * 4294967296) = ((n ||| s * 4294967296 : Nat) : Int) := by
  have e : ((s : Int) * 4294967296) = ((s * 4294967296 : Nat) : Int) := by simp
  rw [e]
  exact or64 n _ hn (by omega)
theorem bit_at (n k : Nat) (hn : n < 2 ^ 64) : (bits .and .u64 ((n : Int) / (2 : Int) ^ k) 1 == 1) = n.testBit k := by
  have e : ((n : Int) / (2 : Int) ^ k) = ((n / 2 ^ k : Nat) : Int) := by simp
  have h1 : n / 2 ^ k < 2 ^ 64 := Nat.lt_of_le_of_lt (Nat.div_le_self _ _) hn
  have e2 : bits .and .u64 ((n / 2 ^ k : Nat) : Int) 1 = ((n / 2 ^ k &&& 1 : Nat) : Int) := and64 _ 1 h1 (by decide)
  rw [e, e2, Nat.and_one_is_mod, Nat.testBit_eq_decide_div_mod_eq, Bool.eq_iff_iff, beq_iff_eq, decide_eq_true_iff]
  omega
theorem pow_lt64 {i : Nat} (h : i < 64) : 2 ^ i < 2 ^ 64 := Nat.pow_lt_pow_right (by decide) h
end Go.Dio

namespace Go.Proofs.YtmdjhahafjlebaaGreatDoor
open Go.RowKit Go.Dio
set_option linter.unusedSimpArgs false
set_option linter.unusedVariables false

/-- Is that byte meant? -/
def mbit (mask : Int) (k : Nat) : Bool := decide (mask / (2 : Int) ^ k % 2 = 1)
def mstep (old data : Nat) (k : Nat) : Nat := (old &&& (4294967295 ^^^ (255 * 2 ^ (8 * k)))) ||| (data &&& (255 * 2 ^ (8 * k)))
def mrgK (old data : Nat) (mask : Int) : Nat → Nat
  | 0 => old
  | k + 1 => if mbit mask k then mstep (mrgK old data mask k) data k else mrgK old data mask k
def mrg (old data : Nat) (mask : Int) : Nat := mrgK old data mask 4
theorem mstep_lt {old data k : Nat} (ho : old < 2 ^ 32) (hd : data < 2 ^ 32) : mstep old data k < 2 ^ 32 :=
  Nat.or_lt_two_pow (Nat.lt_of_le_of_lt Nat.and_le_left ho) (Nat.lt_of_le_of_lt Nat.and_le_left hd)
theorem mrgK_lt {old data : Nat} {mask : Int} (ho : old < 2 ^ 32) (hd : data < 2 ^ 32) : ∀ k, mrgK old data mask k < 2 ^ 32
  | 0 => ho
  | k + 1 => by unfold mrgK; split; exact mstep_lt (mrgK_lt ho hd k) hd; exact mrgK_lt ho hd k

theorem and_one (z : Int) : bits .and .i64 z 1 = z % 2 := by
  have e : bits .and .i64 z 1 = IntKind.i64.wrap (((BitVec.ofInt 64 z) &&& (BitVec.ofInt 64 1)).toNat : Int) := rfl
  have h1 : (BitVec.ofInt 64 1 : BitVec 64).toNat = 2 ^ 1 - 1 := by decide
  rw [BitVec.toNat_and, h1, Nat.and_two_pow_sub_one_eq_mod] at e
  rw [e, wrapi64 (Int.natCast_nonneg _) (by have := Nat.mod_lt (BitVec.ofInt 64 z).toNat (show 0 < 2 ^ 1 by decide); omega)]
  rw [BitVec.toNat_ofInt]
  omega
theorem andnot32 (a b : Nat) (ha : a < 2 ^ 32) (hb : b < 2 ^ 32) : bits .andNot .u32 (a : Int) (b : Int) = ((a &&& (4294967295 ^^^ b) : Nat) : Int) := by
  have ha' : a % 2 ^ 32 = a := Nat.mod_eq_of_lt ha
  have hb' : b % 2 ^ 32 = b := Nat.mod_eq_of_lt hb
  have hx : (4294967295 ^^^ b) = 2 ^ 32 - 1 - b := by
    apply Nat.eq_of_testBit_eq
    intro i
    rw [Nat.testBit_xor, show 2 ^ 32 - 1 - b = 2 ^ 32 - (b + 1) by omega, Nat.testBit_two_pow_sub_succ hb, show (4294967295 : Nat) = 2 ^ 32 - 1 by decide, Nat.testBit_two_pow_sub_one]
    by_cases hi : i < 32
    · simp [hi]
    · simp [hi, Nat.testBit_lt_two_pow (Nat.lt_of_lt_of_le hb (Nat.pow_le_pow_right (by decide) (show 32 ≤ i by omega)))]
  have e : bits .andNot .u32 (a : Int) (b : Int) = IntKind.u32.wrap ((((BitVec.ofInt 32 a) &&& ~~~(BitVec.ofInt 32 b)).toNat : Nat) : Int) := rfl
  rw [e, BitVec.toNat_and, BitVec.toNat_not, BitVec.ofInt_natCast, BitVec.ofInt_natCast, BitVec.toNat_ofNat, BitVec.toNat_ofNat, ha', hb', hx]
  exact wrap32 (Int.natCast_nonneg _) (by exact_mod_cast Nat.lt_of_le_of_lt Nat.and_le_left ha)

theorem Merge_calls (old data : Nat) (mask : Int) (w : World) (ho : old < 2 ^ 32) (hd : data < 2 ^ 32) :
    Calls Tryz.prog 154 #[.int .u32 (old : Int), .int .u32 (data : Int), .int .i64 mask] w fun e w' => e = .returned (.int .u32 (mrg old data mask : Int)) ∧ w' = w := by
  go_enter Tryz.func154, Tryz.ntmps154
  go_wp2_with (fail)
  go_loopg [0, 9] 4 (fun g v0 v9 wl => ∃ (k m : Nat), v9 = .int .i64 (k : Int) ∧ k ≤ 4 ∧ g = 4 - k ∧ v0 = .int .u32 (m : Int) ∧ Hid (m = mrgK old data mask k) ∧ m < 2 ^ 32 ∧ Hid (wl = w))
  case atStart => exact ⟨0, old, rfl, by omega, rfl, rfl, Lib.hid rfl, ho, Lib.hid rfl⟩
  case round =>
    obtain ⟨k, m, rfl, hk, hg, rfl, HM, hm, HW⟩ := hrel
    rcases (by omega : k = 0 ∨ k = 1 ∨ k = 2 ∨ k = 3 ∨ k = 4) with rfl | rfl | rfl | rfl | rfl
    · skip
      have hb : (bits .and .i64 mask 1 == 1) = mbit mask 0 := by
        rw [and_one, mbit, Bool.eq_iff_iff]
        simp
      have e1 : bits .andNot .u32 (m : Int) 255 = ((m &&& (4294967295 ^^^ 255) : Nat) : Int) := andnot32 m 255 hm (by decide)
      have e2 : bits .and .u32 (data : Int) 255 = ((data &&& 255 : Nat) : Int) := and32 data 255 hd (by decide)
      have e3 := or32 (m &&& (4294967295 ^^^ 255)) (data &&& 255) (Nat.lt_of_le_of_lt Nat.and_le_left hm) (Nat.lt_of_le_of_lt Nat.and_le_left hd)
      have hn := mstep_lt (k := 0) hm hd
      have hs : mstep m data 0 = (m &&& (4294967295 ^^^ 255)) ||| (data &&& 255) := rfl
      rw [← hs] at e3
      have HN : Hid (mrgK old data mask 1 = if mbit mask 0 then mstep m data 0 else m) := Lib.hid (by rw [HM.out]; rfl)
      clear hs
      generalize mstep m data 0 = m2 at e3 hn HN
      generalize m &&& (4294967295 ^^^ 255) = p1 at e1 e3
      generalize data &&& 255 = p2 at e2 e3
      cases hB : mbit mask 0
      · rw [hB] at hb HN
        clear hB e1 e2 e3
        go_wp2_with (fail)
        go_roundg (4 - 1)
        case measure => omega
        case rel => exact ⟨1, m, rfl, by omega, rfl, rfl, Lib.hid (by rw [HN.out]; rfl), hm, HW⟩
      · rw [hB] at hb HN
        clear hB
        go_wp2_with (fail)
        go_roundg (4 - 1)
        case measure => omega
        case rel => exact ⟨1, m2, rfl, by omega, rfl, rfl, Lib.hid (by rw [HN.out]; rfl), hn, HW⟩
    · skip
      have hb : (bits .and .i64 (mask / 2) 1 == 1) = mbit mask 1 := by
        rw [and_one, mbit, Bool.eq_iff_iff]
        simp
      have e1 : bits .andNot .u32 (m : Int) 65280 = ((m &&& (4294967295 ^^^ 65280) : Nat) : Int) := andnot32 m 65280 hm (by decide)
      have e2 : bits .and .u32 (data : Int) 65280 = ((data &&& 65280 : Nat) : Int) := and32 data 65280 hd (by decide)
      have e3 := or32 (m &&& (4294967295 ^^^ 65280)) (data &&& 65280) (Nat.lt_of_le_of_lt Nat.and_le_left hm) (Nat.lt_of_le_of_lt Nat.and_le_left hd)
      have hn := mstep_lt (k := 1) hm hd
      have hs : mstep m data 1 = (m &&& (4294967295 ^^^ 65280)) ||| (data &&& 65280) := rfl
      rw [← hs] at e3
      have HN : Hid (mrgK old data mask 2 = if mbit mask 1 then mstep m data 1 else m) := Lib.hid (by rw [HM.out]; rfl)
      clear hs
      generalize mstep m data 1 = m2 at e3 hn HN
      generalize m &&& (4294967295 ^^^ 65280) = p1 at e1 e3
      generalize data &&& 65280 = p2 at e2 e3
      cases hB : mbit mask 1
      · rw [hB] at hb HN
        clear hB e1 e2 e3
        go_wp2_with (fail)
        go_roundg (4 - 2)
        case measure => omega
        case rel => exact ⟨2, m, rfl, by omega, rfl, rfl, Lib.hid (by rw [HN.out]; rfl), hm, HW⟩
      · rw [hB] at hb HN
        clear hB
        go_wp2_with (fail)
        go_roundg (4 - 2)
        case measure => omega
        case rel => exact ⟨2, m2, rfl, by omega, rfl, rfl, Lib.hid (by rw [HN.out]; rfl), hn, HW⟩
    · skip
      have hb : (bits .and .i64 (mask / 4) 1 == 1) = mbit mask 2 := by
        rw [and_one, mbit, Bool.eq_iff_iff]
        simp
      have e1 : bits .andNot .u32 (m : Int) 16711680 = ((m &&& (4294967295 ^^^ 16711680) : Nat) : Int) := andnot32 m 16711680 hm (by decide)
      have e2 : bits .and .u32 (data : Int) 16711680 = ((data &&& 16711680 : Nat) : Int) := and32 data 16711680 hd (by decide)
      have e3 := or32 (m &&& (4294967295 ^^^ 16711680)) (data &&& 16711680) (Nat.lt_of_le_of_lt Nat.and_le_left hm) (Nat.lt_of_le_of_lt Nat.and_le_left hd)
      have hn := mstep_lt (k := 2) hm hd
      have hs : mstep m data 2 = (m &&& (4294967295 ^^^ 16711680)) ||| (data &&& 16711680) := rfl
      rw [← hs] at e3
      have HN : Hid (mrgK old data mask 3 = if mbit mask 2 then mstep m data 2 else m) := Lib.hid (by rw [HM.out]; rfl)
      clear hs
      generalize mstep m data 2 = m2 at e3 hn HN
      generalize m &&& (4294967295 ^^^ 16711680) = p1 at e1 e3
      generalize data &&& 16711680 = p2 at e2 e3
      cases hB : mbit mask 2
      · rw [hB] at hb HN
        clear hB e1 e2 e3
        go_wp2_with (fail)
        go_roundg (4 - 3)
        case measure => omega
        case rel => exact ⟨3, m, rfl, by omega, rfl, rfl, Lib.hid (by rw [HN.out]; rfl), hm, HW⟩
      · rw [hB] at hb HN
        clear hB
        go_wp2_with (fail)
        go_roundg (4 - 3)
        case measure => omega
        case rel => exact ⟨3, m2, rfl, by omega, rfl, rfl, Lib.hid (by rw [HN.out]; rfl), hn, HW⟩
    · skip
      have hb : (bits .and .i64 (mask / 8) 1 == 1) = mbit mask 3 := by
        rw [and_one, mbit, Bool.eq_iff_iff]
        simp
      have e1 : bits .andNot .u32 (m : Int) 4278190080 = ((m &&& (4294967295 ^^^ 4278190080) : Nat) : Int) := andnot32 m 4278190080 hm (by decide)
      have e2 : bits .and .u32 (data : Int) 4278190080 = ((data &&& 4278190080 : Nat) : Int) := and32 data 4278190080 hd (by decide)
      have e3 := or32 (m &&& (4294967295 ^^^ 4278190080)) (data &&& 4278190080) (Nat.lt_of_le_of_lt Nat.and_le_left hm) (Nat.lt_of_le_of_lt Nat.and_le_left hd)
      have hn := mstep_lt (k := 3) hm hd
      have hs : mstep m data 3 = (m &&& (4294967295 ^^^ 4278190080)) ||| (data &&& 4278190080) := rfl
      rw [← hs] at e3
      have HN : Hid (mrgK old data mask 4 = if mbit mask 3 then mstep m data 3 else m) := Lib.hid (by rw [HM.out]; rfl)
      clear hs
      generalize mstep m data 3 = m2 at e3 hn HN
      generalize m &&& (4294967295 ^^^ 4278190080) = p1 at e1 e3
      generalize data &&& 4278190080 = p2 at e2 e3
      cases hB : mbit mask 3
      · rw [hB] at hb HN
        clear hB e1 e2 e3
        go_wp2_with (fail)
        go_roundg (4 - 4)
        case measure => omega
        case rel => exact ⟨4, m, rfl, by omega, rfl, rfl, Lib.hid (by rw [HN.out]; rfl), hm, HW⟩
      · rw [hB] at hb HN
        clear hB
        go_wp2_with (fail)
        go_roundg (4 - 4)
        case measure => omega
        case rel => exact ⟨4, m2, rfl, by omega, rfl, rfl, Lib.hid (by rw [HN.out]; rfl), hn, HW⟩
    · go_wp2_with (fail)
      go_ret
      obtain rfl := HW.out
      exact ⟨by rw [HM.out]; rfl, rfl⟩
end Go.Proofs.YtmdjhahafjlebaaGreatDoor

namespace Go.Dio

def inn (l : List Nat) (i : Int) : Bool := decide (0 ≤ i ∧ i < (l.length : Int))
/-- What is read at a place, and its status. -/
def peekL (l : List Nat) (i : Int) : Nat × Nat := if inn l i then dec (nth l i.toNat) else (0, 2)
def putL (l : List Nat) (i : Int) (v : Nat) : List Nat := if inn l i then l.set i.toNat (enc v) else l
def getL (l : List Nat) (i : Int) : List Nat := if inn l i && decide ((dec (nth l i.toNat)).2 = 1) then l.set i.toNat (mend (nth l i.toNat)).1 else l
def getF (l : List Nat) (i : Int) : Nat := if inn l i && decide ((dec (nth l i.toNat)).2 = 1) then 1 else 0
def flipB (l : List Nat) (b : Int) : Bool := decide (0 ≤ b ∧ b < 39 * (l.length : Int))
def flipL (l : List Nat) (b : Int) : List Nat := if flipB l b then l.set (b.toNat / 39) (nth l (b.toNat / 39) ^^^ 2 ^ (b.toNat % 39)) else l

theorem nth_lt {l : List Nat} {B : Nat} (h : ∀ x ∈ l, x < B) (hB : 0 < B) (i : Nat) : nth l i < B := by
  rcases Nat.lt_or_ge i l.length with hi | hi
  · rw [nth_eq l i hi]; exact h _ (List.getElem_mem hi)
  · simp [nth, hi]; exact hB
theorem set_lt {l : List Nat} {B : Nat} (h : ∀ x ∈ l, x < B) {i v : Nat} (hv : v < B) : ∀ x ∈ l.set i v, x < B := fun x hx => by
  rcases List.mem_or_eq_of_mem_set hx with h1 | h1
  · exact h x h1
  · subst h1; exact hv
theorem nth_set_eq {l : List Nat} {i v : Nat} (h : i < l.length) : nth (l.set i v) i = v := by simp [nth, h]
theorem nth_set_ne {l : List Nat} {i j v : Nat} (h : i ≠ j) : nth (l.set i v) j = nth l j := by simp [nth, List.getD, List.getElem?_set_ne h]
theorem inn_len {l m : List Nat} (h : l.length = m.length) (i : Int) : inn l i = inn m i := by rw [inn, inn, h]
theorem inn_of {l : List Nat} {i : Int} (h0 : 0 ≤ i) (h1 : i < (l.length : Int)) : inn l i = true := decide_eq_true ⟨h0, h1⟩
theorem inn_not {l : List Nat} {i : Int} (h : i < 0 ∨ (l.length : Int) ≤ i) : inn l i = false := decide_eq_false (by omega)
theorem putL_len (l : List Nat) (i : Int) (v : Nat) : (putL l i v).length = l.length := by unfold putL; split <;> simp
theorem getL_len (l : List Nat) (i : Int) : (getL l i).length = l.length := by unfold getL; split <;> simp
theorem flipL_len (l : List Nat) (b : Int) : (flipL l b).length = l.length := by unfold flipL; split <;> simp
end Go.Dio

namespace Go.Proofs.YtmdjhahafjlebaaGreatDoor
open Go.RowKit Go.Dio

set_option maxHeartbeats 1000000 in
theorem Count_calls (n : Nat) (w : World) (hn : n < 2 ^ 64) : Calls Tryz.prog 137 #[.int .u64 (n : Int)] w fun e w' => e = .returned (.int .i64 (pop n : Int)) ∧ w' = w := by
  go_enter Tryz.func137, Tryz.ntmps137
  go_upto_region 2 with (fail)
  go_loopw [0, 3] (fun v0 v3 wl => ∃ a b : Nat, v0 = .int .u64 (a : Int) ∧ a < 2 ^ 64 ∧ v3 = .int .i64 (b : Int) ∧ b ≤ 64 ∧ Hid (pop n = b + pop a) ∧ wl = w) (fun v0 _ _ => (intOf v0).toNat)
  case atStart => exact ⟨n, 0, rfl, hn, rfl, by omega, by simp [Hid], rfl⟩
  case round =>
    obtain ⟨a, b, rfl, ha, rfl, hb, HP, rfl⟩ := hrel
    have HL := Lib.hid (pop_le n)
    rcases Nat.eq_zero_or_pos a with h0 | h0
    · subst h0
      go_wp2
      go_ret
      rw [HP.out, pop_zero]
      exact ⟨rfl, rfl⟩
    · have hne : ((a : Int) != 0) = true := by simp; omega
      have h1 : b + 1 ≤ 64 := by have := HP.out; have := HL.out; have := pop_low h0 ha; omega
      have e1 := and_low h0 ha
      have hl := low_lt h0
      go_wp2
      go_roundw
      case rel =>
        refine ⟨low a, b + 1, rfl, by omega, by go_num, h1, ?_, trivial⟩
        show pop n = b + 1 + pop (low a)
        rw [HP.out, pop_low h0 ha]; omega
      case measure => simp [intOf]; exact hl

/-- The library's table in its variable. -/
def Tz (w : World) : Prop := ∀ j, j < 64 → w.cell? ⟨0, j, none⟩ = some (.int .u8 ((Lib.deBruijn64tab.getD j 0 : Nat) : Int))

theorem tz_key (x a : Nat) (hx : x < 18446744073709551616) (hx0 : x ≠ 0) (hlow : x &&& (18446744073709551616 - x) = a) :
    IntKind.u64.wrap (bits BinOp.and IntKind.u64 (x : Int) (IntKind.u64.wrap (-(x : Int))) * 285870213051353865) / 288230376151711744 = ((a * 285870213051353865 % 18446744073709551616 / 288230376151711744 : Nat) : Int) := by
  have ew : ∀ n : Int, IntKind.u64.wrap n = n % 18446744073709551616 := fun n => by simp [IntKind.wrap, IntKind.bits, IntKind.signed]
  have e1 : IntKind.u64.wrap (-(x : Int)) = ((18446744073709551616 - x : Nat) : Int) := by rw [ew]; omega
  rw [e1, and64 x _ hx (by omega), hlow, ew]
  omega

set_option maxHeartbeats 1000000 in
theorem tz_calls (x : Nat) (w : World) (hx : 0 < x) (hx2 : x < 2 ^ 64) (hT : Tz w) : Calls Tryz.prog 149 #[.int .u64 (x : Int)] w fun e w' => e = .returned (.int .i64 (Lib.ctz 64 x : Int)) ∧ w' = w := by
  obtain ⟨hlow, hk⟩ := Lib.lowest_bit 64 x (by omega) hx2
  obtain ⟨hi, htab⟩ := Lib.deBruijn64_at _ hk
  have hcell := hT _ hi
  rw [htab] at hcell
  have key := tz_key x _ hx2 (by omega) hlow
  obtain ⟨idx, hidx⟩ : ∃ idx, idx = 2 ^ Lib.ctz 64 x * 285870213051353865 % 18446744073709551616 / 288230376151711744 := ⟨_, rfl⟩
  obtain ⟨k, hk0⟩ : ∃ k, k = Lib.ctz 64 x := ⟨_, rfl⟩
  rw [← hk0] at hcell hk hidx hi key ⊢
  rw [← hidx] at hcell hi key
  have hne : ((x : Int) == 0) = false := by simp; omega
  clear htab hidx hlow hT hk0
  go_enter Tryz.func149, Tryz.ntmps149
  go_wp2_with (simp only [key])
  go_ret
  exact ⟨rfl, rfl⟩
end Go.Proofs.YtmdjhahafjlebaaGreatDoor

namespace Go.Proofs.YtmdjhahafjlebaaGreatDoor
open Go.RowKit Go.Dio

theorem info_cols : (Tryz.prog.info? 165).map (·.size) = some 39 := by kernel_rfl

theorem columns_calls (w : World) : Calls Tryz.prog 148 #[] w fun e w' => e = .returned (.agg (nums .u8 cols)) ∧ Below w.heap.size w w' := by
  go_enter Tryz.func148, Tryz.ntmps148
  go_upto_region 1 with (fail)
  go_wp2_with (first
    | go_skip
    | (refine L_store_new 165 (.tmp 0) (.tmp 1) rfl (by kernel_rfl) _ (nums .u8 cols) rfl rfl 39 info_cols rfl rfl (nums_one _ _) ?_))
  refine bodyPost_ret (results_cell_row rfl _ _ w.heap.size 165 (nums .u8 cols) _ _ rfl (Go.heap_alloc_last _ _) Tryz.underlying165 rfl info_cols) rfl ⟨rfl, (Below.refl _ _).alloc (Nat.le_refl _) _⟩

theorem Tz.of_below {B : Nat} {w w' : World} (h : Tz w) (hb : Below B w w') (h0 : 0 < B) : Tz w' := fun j hj => by
  rw [hb.cell (p := ⟨0, j, none⟩) h0]; exact h j hj
theorem Tz.of_upd {S : List Nat} {w w' : World} (h : Tz w) (hb : Upd S w w') (h0 : 0 ∉ S) : Tz w' := fun j hj => by
  have hc := h j hj
  have hl : 0 < w.heap.size := by
    rcases Nat.lt_or_ge 0 w.heap.size with h0 | h0
    · exact h0
    · have e : w.heap[0]? = none := by rw [Array.getElem?_eq_none_iff]; exact h0
      simp [World.cell?, e] at hc
  rw [← hc]; exact World.cell?_of_block (w := w) (hb.block _ hl h0)
theorem Tz.size {w : World} (h : Tz w) : 0 < w.heap.size := by
  rcases Nat.eq_zero_or_pos w.heap.size with h0 | h0
  · have hc := h 0 (by decide)
    have e : w.heap[0]? = none := by rw [Array.getElem?_eq_none_iff]; omega
    simp [World.cell?, e] at hc
  · exact h0

set_option maxRecDepth 20000 in
set_option maxHeartbeats 1000000 in
theorem Syndrome_calls (n : Nat) (w : World) (hn : n < 2 ^ 64) (hT : Tz w) : Calls Tryz.prog 128 #[.int .u64 (n : Int)] w fun e w' => e = .returned (.int .i64 (syn n : Int)) ∧ Below w.heap.size w w' := by
  have HT := Lib.hid hT
  clear hT
  have hm := and_whole hn
  obtain ⟨m, hm0⟩ : ∃ m, m = n % 2 ^ 39 := ⟨_, rfl⟩
  have hml : m < 2 ^ 39 := by rw [hm0]; exact Nat.mod_lt _ (by decide)
  have hs : syn n = syn m := by rw [hm0, syn_mod]
  rw [hs]
  rw [← hm0] at hm
  have HS := Lib.hid hs
  clear hs hm0
  go_enter Tryz.func128, Tryz.ntmps128
  go_upto_region 1 with (fail)
  go_wp2_with (fail)
  refine (columns_calls _).mono ?_
  rintro e w1 ⟨rfl, hb1⟩
  go_wp2_with (first
    | go_skip
    | (refine L_store_new 165 (.tmp 3) (.tmp 5) rfl (by kernel_rfl) _ (nums .u8 cols) rfl rfl 39 info_cols rfl rfl (nums_one _ _) ?_))
  obtain ⟨W, hW⟩ : ∃ W, W = w1.alloc (.cells (nums .u8 cols) 165) := ⟨_, rfl⟩
  have hbW : Below w.heap.size w W := by rw [hW]; exact hb1.alloc hb1.size _
  have hcell : ∀ k, k < 39 → W.cell? ⟨w1.heap.size, k, none⟩ = some (.int .u8 ((col k : Nat) : Int)) := fun k hk => by
    rw [hW, cell_of_row _ _ _ _ _ _ (Go.heap_alloc_last _ _)]
    exact nums_nth .u8 cols k hk
  have hTW : Tz W := HT.out.of_below hbW (HT.out.size)
  have HC := Lib.hid hcell
  have HTW := Lib.hid hTW
  have HB := Lib.hid hbW
  have hbs : w1.heap.size < W.heap.size := by rw [hW]; simp
  rw [← hW]
  clear hW hbW hcell hTW hb1
  go_loopw [0, 4] (fun v0 v4 wl => ∃ a s : Nat, v0 = .int .u64 (a : Int) ∧ a < 2 ^ 39 ∧ v4 = .int .u8 (s : Int) ∧ s < 128 ∧ Hid (syn m = s ^^^ syn a) ∧ wl = W) (fun v0 _ _ => (intOf v0).toNat)
  case atStart => exact ⟨m, 0, rfl, hml, rfl, by omega, by show syn m = 0 ^^^ syn m; rw [Nat.zero_xor], rfl⟩
  case round =>
    obtain ⟨a, s, rfl, ha, rfl, hs, HP, rfl⟩ := hrel
    rcases Nat.eq_zero_or_pos a with h0 | h0
    · subst h0
      go_wp2
      go_ret
      rw [HP.out, syn_zero, Nat.xor_zero]
      exact ⟨by go_num, HB.out⟩
    · have hne : ((a : Int) != 0) = true := by simp; omega
      obtain ⟨k, ek, hk, es⟩ := syn_low h0 ha
      have ES := Lib.hid es
      have hcl := col_lt k hk
      have hcc := HC.out k hk
      have e1 := and_low h0 (by omega)
      have e2 := xor8 s (col k) (by omega) (by omega)
      have hl := low_lt h0
      have hx : s ^^^ col k < 128 := Nat.xor_lt_two_pow (n := 7) hs hcl
      have hcall := Lib.hid (tz_calls a _ h0 (by omega) HTW.out)
      rw [← ek] at hcall
      clear es ek
      go_wp2_with (fail)
      refine hcall.out.mono ?_
      rintro e w2 ⟨rfl, rfl⟩
      go_wp2_with (fail)
      go_roundw
      case rel =>
        refine ⟨low a, s ^^^ col k, rfl, by omega, by go_num, hx, ?_, trivial⟩
        show syn m = s ^^^ col k ^^^ syn (low a)
        rw [HP.out, ES.out]
        generalize syn (low a) = x
        generalize col k = y
        ac_rfl
      case measure => simp [intOf]; exact hl
end Go.Proofs.YtmdjhahafjlebaaGreatDoor
