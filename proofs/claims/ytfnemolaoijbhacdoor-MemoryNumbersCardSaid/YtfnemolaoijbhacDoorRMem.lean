/- The document's memory, in memory: place, Load, Store, Merge. -/
import Derived.Test.YtfnemolaoijbhacDoorMem2
import Derived.Test.YtfnemolaoijbhacDoorRowE
namespace Go.Proofs.YtfnemolaoijbhacDoor
open Go.RowKit Go.Dio
set_option linter.unusedSimpArgs false
set_option linter.unusedVariables false

/-- Memory at block mb, its row at b, d. -/
structure RMemAt (mb b d : Nat) (l : List Nat) (f at' : Nat) (w : World) : Prop where
  cell : w.heap[mb]? = some (.cells #[.pointer (some ⟨b, 0, none⟩), .int .i64 (at' : Int)] 82 (0, 0))
  row : RowAt 85 b d l f w
  nb : mb ≠ b
  nd : mb ≠ d
  f0 : mb ≠ 0
theorem RMemAt.upd {mb b d : Nat} {l : List Nat} {f at' : Nat} {S : List Nat} {w w' : World} (h : RMemAt mb b d l f at' w) (u : Upd S w w') (h1 : mb ∉ S) (h2 : b ∉ S) (h3 : d ∉ S) (hg : 0 ∉ S) : RMemAt mb b d l f at' w' :=
  ⟨u.keep h.cell h1, h.row.upd u h2 h3 hg, h.nb, h.nd, h.f0⟩
theorem RMemAt.upd0 {mb b d : Nat} {l : List Nat} {f at' : Nat} {w w' : World} (h : RMemAt mb b d l f at' w) (u : Upd [] w w') : RMemAt mb b d l f at' w' := h.upd u (by simp) (by simp) (by simp) (by simp)
theorem RMemAt.step {mb b d : Nat} {l l' : List Nat} {f f' at' : Nat} {S : List Nat} {w w' : World} (h : RMemAt mb b d l f at' w) (r : RowAt 85 b d l' f' w') (u : Upd S w w') (hS : ∀ x ∈ S, x = b ∨ x = d) : RMemAt mb b d l' f' at' w' :=
  ⟨u.keep h.cell (fun hx => by have := h.nb; have := h.nd; rcases hS _ hx with e | e <;> omega), r, h.nb, h.nd, h.f0⟩
theorem RMemAt.next {mb b d : Nat} {l : List Nat} {f a : Nat} {w : World} (h : RMemAt mb b d l f a w) (n : Nat) : RMemAt mb b d l f n (w.setCell ⟨mb, 1, none⟩ (.int .i64 (n : Int))) := by
  refine ⟨?_, ?_, h.nb, h.nd, h.f0⟩
  · rw [heap_setCell_eq h.cell]; simp
  · exact h.row.upd ((Upd.refl [mb] w).setCell (p := ⟨mb, 1, none⟩) (by simp) _) (by have := h.nb; simp; omega) (by have := h.nd; simp; omega) (by have := h.f0; simp; omega)
def rmemA (mb b d : Nat) (l : List Nat) (f at' : Nat) : Ast :=
  ⟨[mb, b, d], RMemAt mb b d l f at', fun _ _ _ h u hb hg => h.upd u (hb mb (by simp)) (hb b (by simp)) (hb d (by simp)) hg⟩

theorem place_calls (v : Nat) (w : World) (hv : v < 2 ^ 32) : Calls Tryd.prog 60 #[.int .u32 (v : Int)] w fun e w' => e = .returned (.int .i64 (mayE v : Int)) ∧ w' = w := by
  unfold mayE
  rcases (by omega : v % 4 ≠ 0 ∨ (v % 4 = 0 ∧ 4096 ≤ v) ∨ (v % 4 = 0 ∧ v < 4096)) with h | ⟨h, g⟩ | ⟨h, g⟩
  · rw [if_pos h]
    have h4 : ((v : Int) % 4 == 0) = false := by rw [beq_eq_false_iff_ne]; omega
    have h4' : ((v : Int) % 4 != 0) = true := by rw [bne_iff_ne]; omega
    go_enter Tryd.func60, Tryd.ntmps60
    go_wp2_with (fail)
    go_ret
    exact ⟨rfl, rfl⟩
  · rw [if_neg (by omega), if_pos g]
    have h4 : (v : Int) % 4 = 0 := by omega
    go_enter Tryd.func60, Tryd.ntmps60
    go_wp2_with (fail)
    have hd : decide ((v : Int) < 4096) = false := by rw [decide_eq_false_iff_not]; omega
    go_wp2
    go_ret
    exact ⟨rfl, rfl⟩
  · rw [if_neg (by omega), if_neg (by omega)]
    have h4 : (v : Int) % 4 = 0 := by omega
    go_enter Tryd.func60, Tryd.ntmps60
    go_wp2_with (fail)
    have hd : decide ((v : Int) < 4096) = true := by rw [decide_eq_true_iff]; omega
    go_wp2
    go_ret
    exact ⟨rfl, rfl⟩

set_option maxHeartbeats 1000000 in
theorem RMLoad_calls (mb b d : Nat) (l : List Nat) (f at' : Nat) (v : Nat) (w : World) (h : RMemAt mb b d l f at' w) (hv : v < 2 ^ 32) (hf : f < 9223372036854775806) :
    Calls Tryd.prog 45 #[.pointer (some ⟨mb, 0, none⟩), .int .u32 (v : Int)] w fun e w' => e = .returned (.tuple #[.int .u32 ((mloadV l v).1 : Int), .int .i64 ((mloadV l v).2 : Int)]) ∧ RMemAt mb b d (mloadL l v) (f + mloadF l v) at' w' ∧ Upd [b, d] w w' := by
  have cb := cells_of h.cell
  have c0 : w.cell? ⟨mb, 0, none⟩ = some (.pointer (some ⟨b, 0, none⟩)) := by rw [cb]; rfl
  clear cb
  have H := Lib.hid h
  have M := Lib.hid (place_calls v w hv)
  by_cases hm : mayE v = 0
  · rw [hm] at M
    have G := Lib.hid (RGet_calls _ b d l f ((v / 4 : Nat) : Int) w h.row hf)
    have e2 : mloadL l v = getL l ((v / 4 : Nat) : Int) := by rw [mloadL, if_neg (by omega)]
    have e3 : mloadF l v = getF l ((v / 4 : Nat) : Int) := by rw [mloadF, if_neg (by omega)]
    have e1 : mloadV l v = if (peekL l ((v / 4 : Nat) : Int)).2 = 2 then (0, 25) else ((peekL l ((v / 4 : Nat) : Int)).1, 0) := by rw [mloadV, if_neg (by omega)]
    rw [e1, e2, e3]
    clear e1 e2 e3
    have hq : (v : Int) / 4 = ((v / 4 : Nat) : Int) := by omega
    have hql : v / 4 < 2 ^ 32 := by omega
    generalize v / 4 = q at G hq hql ⊢
    obtain ⟨y, z, hyz⟩ : ∃ y z, peekL l (q : Int) = (y, z) := ⟨_, _, rfl⟩
    rw [hyz] at G ⊢
    simp only
    clear h hm hyz
    by_cases hz : z = 2
    · subst hz
      go_enter Tryd.func45, Tryd.ntmps45
      go_wp2_with (fail)
      refine M.out.mono ?_
      rintro e w' ⟨rfl, rfl⟩
      go_wp2_with (fail)
      refine G.out.mono ?_
      rintro e w1 ⟨rfl, r, u⟩
      go_wp2_with (fail)
      go_ret2
      exact ⟨rfl, H.out.step r u (by simp), u⟩
    · rw [if_neg hz]
      have dz : ((z : Int) == 2) = false := by rw [beq_eq_false_iff_ne]; omega
      go_enter Tryd.func45, Tryd.ntmps45
      go_wp2_with (fail)
      refine M.out.mono ?_
      rintro e w' ⟨rfl, rfl⟩
      go_wp2_with (fail)
      refine G.out.mono ?_
      rintro e w1 ⟨rfl, r, u⟩
      go_wp2_with (fail)
      go_ret2
      exact ⟨rfl, H.out.step r u (by simp), u⟩
  · have e1 : mloadV l v = (0, mayE v) := by rw [mloadV, if_pos hm]
    have e2 : mloadL l v = l := by rw [mloadL, if_pos hm]
    have e3 : mloadF l v = 0 := by rw [mloadF, if_pos hm]
    rw [e1, e2, e3]
    generalize mayE v = e at M hm ⊢
    have d0 : ((e : Int) != 0) = true := by rw [bne_iff_ne]; omega
    clear h e1 e2 e3 c0
    go_enter Tryd.func45, Tryd.ntmps45
    go_wp2_with (fail)
    refine M.out.mono ?_
    rintro e w' ⟨rfl, rfl⟩
    go_wp2_with (fail)
    go_ret2
    exact ⟨rfl, H.out, Upd.refl _ _⟩

/-! Merge, byte by byte. -/
def rmrgK (old data : Nat) (mask : Int) : Nat → Nat
  | 0 => 0
  | k + 1 => rmrgK old data mask k ||| ((if mbit mask k then data else old) &&& (255 * 2 ^ (8 * k)))
theorem byte_bit (k i : Nat) : (255 * 2 ^ (8 * k)).testBit i = (decide (8 * k ≤ i) && decide (i < 8 * k + 8)) := by
  rw [Nat.testBit_mul_two_pow, show (255 : Nat) = 2 ^ 8 - 1 by decide, Nat.testBit_two_pow_sub_one]
  by_cases h : 8 * k ≤ i
  · have : (i - 8 * k < 8) ↔ (i < 8 * k + 8) := by omega
    simp [h, this]
  · simp [h]
theorem rmrgK_bit (old data : Nat) (mask : Int) (i : Nat) : ∀ k, (rmrgK old data mask k).testBit i = (decide (i < 8 * k) && (if mbit mask (i / 8) then data else old).testBit i)
  | 0 => by simp [rmrgK]
  | k + 1 => by
    rw [rmrgK, Nat.testBit_or, Nat.testBit_and, byte_bit, rmrgK_bit old data mask i k]
    by_cases h1 : i < 8 * k
    · have h2 : ¬ 8 * k ≤ i := by omega
      have h3 : i < 8 * (k + 1) := by omega
      simp [h1, h2, h3]
    · by_cases h4 : i < 8 * (k + 1)
      · have h5 : i / 8 = k := by omega
        have h6 : 8 * k ≤ i := by omega
        have h7 : i < 8 * k + 8 := by omega
        simp [h1, h4, h5, h6, h7]
      · have h7 : ¬ i < 8 * k + 8 := by omega
        simp [h1, h4, h7]
theorem mrgK_bit {old data : Nat} (mask : Int) (i : Nat) (hi : i < 32) : ∀ k, k ≤ 4 → (mrgK old data mask k).testBit i = (if i < 8 * k ∧ mbit mask (i / 8) then data else old).testBit i
  | 0, _ => by simp [mrgK]
  | k + 1, hk => by
    have ih := mrgK_bit (old := old) (data := data) mask i hi k (by omega)
    rw [mrgK]
    have hx : (4294967295 ^^^ (255 * 2 ^ (8 * k))).testBit i = !(decide (8 * k ≤ i) && decide (i < 8 * k + 8)) := by
      rw [Nat.testBit_xor, byte_bit, show (4294967295 : Nat) = 2 ^ 32 - 1 by decide, Nat.testBit_two_pow_sub_one]; simp [hi]
    by_cases h1 : i < 8 * k
    · have h2 : ¬ 8 * k ≤ i := by omega
      have h3 : i < 8 * (k + 1) := by omega
      split
      · rw [mstep, Nat.testBit_or, Nat.testBit_and, Nat.testBit_and, hx, byte_bit, ih]; simp [h1, h2, h3]
      · rw [ih]; simp [h1, h3]
    · by_cases h4 : i < 8 * (k + 1)
      · have h5 : i / 8 = k := by omega
        have h6 : 8 * k ≤ i := by omega
        have h7 : i < 8 * k + 8 := by omega
        split
        · next hm => rw [mstep, Nat.testBit_or, Nat.testBit_and, Nat.testBit_and, hx, byte_bit, ih]; simp [h4, h5, h6, h7, hm]
        · next hm => rw [ih]; simp [h1, h4, h5, hm]
      · have h7 : ¬ i < 8 * k + 8 := by omega
        split
        · rw [mstep, Nat.testBit_or, Nat.testBit_and, Nat.testBit_and, hx, byte_bit, ih]; simp [h1, h4, h7]
        · rw [ih]; simp [h1, h4]
theorem rmrg_eq {old data : Nat} (mask : Int) (ho : old < 2 ^ 32) (hd : data < 2 ^ 32) : rmrgK old data mask 4 = mrg old data mask := by
  apply Nat.eq_of_testBit_eq
  intro i
  rw [rmrgK_bit, mrg]
  by_cases hi : i < 32
  · rw [mrgK_bit mask i hi 4 (Nat.le_refl _)]; simp [hi]
  · have h1 : (mrgK old data mask 4).testBit i = false := Nat.testBit_lt_two_pow (Nat.lt_of_lt_of_le (mrgK_lt ho hd 4) (Nat.pow_le_pow_right (by decide) (by omega)))
    rw [h1]; simp; omega
theorem rmrgK_lt {old data : Nat} {mask : Int} (ho : old < 2 ^ 32) (hd : data < 2 ^ 32) : ∀ k, rmrgK old data mask k < 2 ^ 32
  | 0 => by simp [rmrgK]
  | k + 1 => Nat.or_lt_two_pow (rmrgK_lt ho hd k) (Nat.lt_of_le_of_lt Nat.and_le_left (by split <;> assumption))
theorem RMerge_calls (old data : Nat) (mask : Int) (w : World) (ho : old < 2 ^ 32) (hd : data < 2 ^ 32) :
    Calls Tryd.prog 61 #[.int .u32 (old : Int), .int .u32 (data : Int), .int .i64 mask] w fun e w' => e = .returned (.int .u32 (mrg old data mask : Int)) ∧ w' = w := by
  go_enter Tryd.func61, Tryd.ntmps61
  go_wp2_with (fail)
  go_loopg [7, 8] 4 (fun g v7 v8 wl => ∃ (k m : Nat), v8 = .int .u64 (k : Int) ∧ k ≤ 4 ∧ g = 4 - k ∧ v7 = .int .u32 (m : Int) ∧ Hid (m = rmrgK old data mask k) ∧ m < 2 ^ 32 ∧ Hid (wl = w))
  case atStart => exact ⟨0, 0, rfl, by omega, rfl, rfl, Lib.hid rfl, by decide, Lib.hid rfl⟩
  case round =>
    obtain ⟨k, m, rfl, hk, hg, rfl, HM, hm, HW⟩ := hrel
    rcases (by omega : k = 0 ∨ k = 1 ∨ k = 2 ∨ k = 3 ∨ k = 4) with rfl | rfl | rfl | rfl | rfl
    · skip
      have hb : (bits .and .i64 mask 1 == 1) = mbit mask 0 := by
        rw [and_one, mbit, Bool.eq_iff_iff]
        simp
      have hs : rmrgK old data mask 1 = rmrgK old data mask 0 ||| ((if mbit mask 0 then data else old) &&& (255 * 2 ^ (8 * 0))) := rfl
      have hn := rmrgK_lt (mask := mask) ho hd 1
      rw [← HM.out, show 255 * 2 ^ (8 * 0) = 255 by decide] at hs
      cases hB : mbit mask 0
      · rw [hB] at hb hs
        simp only [Bool.false_eq_true, ↓reduceIte] at hs
        have e2 : bits .and .u32 (old : Int) 255 = ((old &&& 255 : Nat) : Int) := and32 old 255 ho (by decide)
        have e3 := or32 m (old &&& 255) hm (Nat.lt_of_le_of_lt Nat.and_le_left ho)
        generalize old &&& 255 = p2 at e2 e3 hs
        rw [← hs] at e3
        have HN := Lib.hid hs
        clear hB hs
        generalize hR : rmrgK old data mask 1 = R at e3 hn HN ⊢
        have HR2 := Lib.hid hR.symm
        clear hR
        go_wp2_with (fail)
        go_roundg (4 - 1)
        case measure => omega
        case rel => exact ⟨1, R, rfl, by omega, rfl, rfl, HR2, hn, HW⟩
      · rw [hB] at hb hs
        simp only [↓reduceIte] at hs
        have e2 : bits .and .u32 (data : Int) 255 = ((data &&& 255 : Nat) : Int) := and32 data 255 hd (by decide)
        have e3 := or32 m (data &&& 255) hm (Nat.lt_of_le_of_lt Nat.and_le_left hd)
        generalize data &&& 255 = p2 at e2 e3 hs
        rw [← hs] at e3
        clear hB hs
        generalize hR : rmrgK old data mask 1 = R at e3 hn ⊢
        have HR2 := Lib.hid hR.symm
        clear hR
        go_wp2_with (fail)
        go_roundg (4 - 1)
        case measure => omega
        case rel => exact ⟨1, R, rfl, by omega, rfl, rfl, HR2, hn, HW⟩
    · skip
      have hb : (bits .and .i64 (mask / 2) 1 == 1) = mbit mask 1 := by
        rw [and_one, mbit, Bool.eq_iff_iff]
        simp
      have hs : rmrgK old data mask 2 = rmrgK old data mask 1 ||| ((if mbit mask 1 then data else old) &&& (255 * 2 ^ (8 * 1))) := rfl
      have hn := rmrgK_lt (mask := mask) ho hd 2
      rw [← HM.out, show 255 * 2 ^ (8 * 1) = 65280 by decide] at hs
      cases hB : mbit mask 1
      · rw [hB] at hb hs
        simp only [Bool.false_eq_true, ↓reduceIte] at hs
        have e2 : bits .and .u32 (old : Int) 65280 = ((old &&& 65280 : Nat) : Int) := and32 old 65280 ho (by decide)
        have e3 := or32 m (old &&& 65280) hm (Nat.lt_of_le_of_lt Nat.and_le_left ho)
        generalize old &&& 65280 = p2 at e2 e3 hs
        rw [← hs] at e3
        have HN := Lib.hid hs
        clear hB hs
        generalize hR : rmrgK old data mask 2 = R at e3 hn HN ⊢
        have HR2 := Lib.hid hR.symm
        clear hR
        go_wp2_with (fail)
        go_roundg (4 - 2)
        case measure => omega
        case rel => exact ⟨2, R, rfl, by omega, rfl, rfl, HR2, hn, HW⟩
      · rw [hB] at hb hs
        simp only [↓reduceIte] at hs
        have e2 : bits .and .u32 (data : Int) 65280 = ((data &&& 65280 : Nat) : Int) := and32 data 65280 hd (by decide)
        have e3 := or32 m (data &&& 65280) hm (Nat.lt_of_le_of_lt Nat.and_le_left hd)
        generalize data &&& 65280 = p2 at e2 e3 hs
        rw [← hs] at e3
        clear hB hs
        generalize hR : rmrgK old data mask 2 = R at e3 hn ⊢
        have HR2 := Lib.hid hR.symm
        clear hR
        go_wp2_with (fail)
        go_roundg (4 - 2)
        case measure => omega
        case rel => exact ⟨2, R, rfl, by omega, rfl, rfl, HR2, hn, HW⟩
    · skip
      have hb : (bits .and .i64 (mask / 4) 1 == 1) = mbit mask 2 := by
        rw [and_one, mbit, Bool.eq_iff_iff]
        simp
      have hs : rmrgK old data mask 3 = rmrgK old data mask 2 ||| ((if mbit mask 2 then data else old) &&& (255 * 2 ^ (8 * 2))) := rfl
      have hn := rmrgK_lt (mask := mask) ho hd 3
      rw [← HM.out, show 255 * 2 ^ (8 * 2) = 16711680 by decide] at hs
      cases hB : mbit mask 2
      · rw [hB] at hb hs
        simp only [Bool.false_eq_true, ↓reduceIte] at hs
        have e2 : bits .and .u32 (old : Int) 16711680 = ((old &&& 16711680 : Nat) : Int) := and32 old 16711680 ho (by decide)
        have e3 := or32 m (old &&& 16711680) hm (Nat.lt_of_le_of_lt Nat.and_le_left ho)
        generalize old &&& 16711680 = p2 at e2 e3 hs
        rw [← hs] at e3
        have HN := Lib.hid hs
        clear hB hs
        generalize hR : rmrgK old data mask 3 = R at e3 hn HN ⊢
        have HR2 := Lib.hid hR.symm
        clear hR
        go_wp2_with (fail)
        go_roundg (4 - 3)
        case measure => omega
        case rel => exact ⟨3, R, rfl, by omega, rfl, rfl, HR2, hn, HW⟩
      · rw [hB] at hb hs
        simp only [↓reduceIte] at hs
        have e2 : bits .and .u32 (data : Int) 16711680 = ((data &&& 16711680 : Nat) : Int) := and32 data 16711680 hd (by decide)
        have e3 := or32 m (data &&& 16711680) hm (Nat.lt_of_le_of_lt Nat.and_le_left hd)
        generalize data &&& 16711680 = p2 at e2 e3 hs
        rw [← hs] at e3
        clear hB hs
        generalize hR : rmrgK old data mask 3 = R at e3 hn ⊢
        have HR2 := Lib.hid hR.symm
        clear hR
        go_wp2_with (fail)
        go_roundg (4 - 3)
        case measure => omega
        case rel => exact ⟨3, R, rfl, by omega, rfl, rfl, HR2, hn, HW⟩
    · skip
      have hb : (bits .and .i64 (mask / 8) 1 == 1) = mbit mask 3 := by
        rw [and_one, mbit, Bool.eq_iff_iff]
        simp
      have hs : rmrgK old data mask 4 = rmrgK old data mask 3 ||| ((if mbit mask 3 then data else old) &&& (255 * 2 ^ (8 * 3))) := rfl
      have hn := rmrgK_lt (mask := mask) ho hd 4
      rw [← HM.out, show 255 * 2 ^ (8 * 3) = 4278190080 by decide] at hs
      cases hB : mbit mask 3
      · rw [hB] at hb hs
        simp only [Bool.false_eq_true, ↓reduceIte] at hs
        have e2 : bits .and .u32 (old : Int) 4278190080 = ((old &&& 4278190080 : Nat) : Int) := and32 old 4278190080 ho (by decide)
        have e3 := or32 m (old &&& 4278190080) hm (Nat.lt_of_le_of_lt Nat.and_le_left ho)
        generalize old &&& 4278190080 = p2 at e2 e3 hs
        rw [← hs] at e3
        have HN := Lib.hid hs
        clear hB hs
        generalize hR : rmrgK old data mask 4 = R at e3 hn HN ⊢
        have HR2 := Lib.hid hR.symm
        clear hR
        go_wp2_with (fail)
        go_roundg (4 - 4)
        case measure => omega
        case rel => exact ⟨4, R, rfl, by omega, rfl, rfl, HR2, hn, HW⟩
      · rw [hB] at hb hs
        simp only [↓reduceIte] at hs
        have e2 : bits .and .u32 (data : Int) 4278190080 = ((data &&& 4278190080 : Nat) : Int) := and32 data 4278190080 hd (by decide)
        have e3 := or32 m (data &&& 4278190080) hm (Nat.lt_of_le_of_lt Nat.and_le_left hd)
        generalize data &&& 4278190080 = p2 at e2 e3 hs
        rw [← hs] at e3
        clear hB hs
        generalize hR : rmrgK old data mask 4 = R at e3 hn ⊢
        have HR2 := Lib.hid hR.symm
        clear hR
        go_wp2_with (fail)
        go_roundg (4 - 4)
        case measure => omega
        case rel => exact ⟨4, R, rfl, by omega, rfl, rfl, HR2, hn, HW⟩
    · go_wp2_with (fail)
      go_ret
      obtain rfl := HW.out
      exact ⟨by rw [← rmrg_eq mask ho hd, ← HM.out]; rfl, rfl⟩
set_option maxHeartbeats 1000000 in
theorem RMStore_calls (mb b d : Nat) (l : List Nat) (f at' : Nat) (v data : Nat) (mask : Int) (w : World) (h : RMemAt mb b d l f at' w) (hv : v < 2 ^ 32) (hd : data < 2 ^ 32) (hf : f < 9223372036854775806) :
    Calls Tryd.prog 43 #[.pointer (some ⟨mb, 0, none⟩), .int .u32 (v : Int), .int .u32 (data : Int), .int .i64 mask] w fun e w' => e = .returned (.int .i64 (mstoreE l v mask : Int)) ∧ RMemAt mb b d (mstoreL l v data mask) (f + mloadF l v) at' w' ∧ Upd [b, d] w w' := by
  have cb := cells_of h.cell
  have c0 : w.cell? ⟨mb, 0, none⟩ = some (.pointer (some ⟨b, 0, none⟩)) := by rw [cb]; rfl
  clear cb
  have H := Lib.hid h
  have M := Lib.hid (place_calls v w hv)
  by_cases hm : mayE v = 0
  · rw [hm] at M
    obtain ⟨_, hlt⟩ := mayE_ok hm
    have G := Lib.hid (RGet_calls _ b d l f ((v / 4 : Nat) : Int) w h.row hf)
    have e3 : mloadF l v = getF l ((v / 4 : Nat) : Int) := by rw [mloadF, if_neg (by omega)]
    have e2 : mstoreL l v data mask = if (peekL l ((v / 4 : Nat) : Int)).2 = 2 ∧ mask % 16 ≠ 15 then getL l ((v / 4 : Nat) : Int) else putL (getL l ((v / 4 : Nat) : Int)) ((v / 4 : Nat) : Int) (mrg (peekL l ((v / 4 : Nat) : Int)).1 data mask) := by rw [mstoreL, if_neg (by omega)]
    have e1 : mstoreE l v mask = if (peekL l ((v / 4 : Nat) : Int)).2 = 2 ∧ mask % 16 ≠ 15 then 25 else 0 := by rw [mstoreE, if_neg (by omega)]
    rw [e1, e2, e3]
    clear e1 e2 e3
    have hq : (v : Int) / 4 = ((v / 4 : Nat) : Int) := by omega
    have hql : v / 4 < 1024 := by omega
    have hpl := peek_lt l ((v / 4 : Nat) : Int)
    generalize v / 4 = q at G hq hql hpl ⊢
    generalize getL l (q : Int) = l1 at G ⊢
    generalize f + getF l (q : Int) = f2 at G ⊢
    obtain ⟨y, z, hyz⟩ : ∃ y z, peekL l (q : Int) = (y, z) := ⟨_, _, rfl⟩
    rw [hyz] at G hpl ⊢
    simp only at hpl ⊢
    have h15 := and15 mask
    obtain ⟨m15, hm15⟩ : ∃ m15, m15 = mask % 16 := ⟨_, rfl⟩
    rw [← hm15] at h15 ⊢
    clear h hm hyz hm15 hlt
    by_cases hz : z = 2 ∧ m15 ≠ 15
    · obtain ⟨hz, hm⟩ := hz
      rw [if_pos ⟨hz, hm⟩, if_pos ⟨hz, hm⟩]
      subst hz
      have d15 : (m15 != 15) = true := by rw [bne_iff_ne]; exact hm
      go_enter Tryd.func43, Tryd.ntmps43
      go_wp2_with (fail)
      refine M.out.mono ?_
      rintro e w' ⟨rfl, rfl⟩
      go_wp2_with (fail)
      refine G.out.mono ?_
      rintro e w1 ⟨rfl, r, u⟩
      go_wp2_with (fail)
      go_ret
      exact ⟨rfl, H.out.step r u (by simp), u⟩
    · rw [if_neg hz, if_neg hz]
      have dz : (((z : Int) == 2) && (m15 != 15)) = false := by
        by_cases z2 : z = 2
        · have : m15 = 15 := by omega
          subst z2 this; rfl
        · have : ((z : Int) == 2) = false := by rw [beq_eq_false_iff_ne]; omega
          rw [this]; rfl
      go_enter Tryd.func43, Tryd.ntmps43
      go_wp2_with (fail)
      refine M.out.mono ?_
      rintro e w' ⟨rfl, rfl⟩
      go_wp2_with (fail)
      refine G.out.mono ?_
      rintro e w1 ⟨rfl, r, u⟩
      have H1 := Lib.hid (H.out.step r u (by simp))
      clear r
      by_cases z2 : z = 2
      · have m2 : m15 = 15 := by omega
        subst z2 m2
        go_wp2_with (fail)
        have n0 : ∀ x : Near [d] w1, x.1.cell? ⟨mb, 0, none⟩ = some (.pointer (some ⟨b, 0, none⟩)) := fun x => by rw [cells_of (x.2.keep H1.out.cell (by have := H1.out.nd; simp; omega))]; rfl
        refine wp_region_plan (fun z => ∃ x : Near [d] w1, z = x.1) [([0, 1, 2, 3, 4, 5, 6, 7, 8, 9], 10), ([], 11)] [] (by kernel_rfl) (by kernel_rfl) (by kernel_rfl) (by kernel_rfl) (fun _ d _ _ _ h => by cases d <;> exact h) ⟨⟨(w1).drew, (Upd.refl _ _).drew⟩, rfl⟩ ?_
        refine plan_next ?_
        simp only [opsAt, List.map_cons, List.map_nil, List.getElem?_toArray, List.getElem?_cons_zero, List.getElem?_cons_succ, Option.getD_some]
        repeat (go_big_quiet_step (fail))
        refine wpQuiet_nil ?_
        refine plan_one rfl ?_
        go_wp2_with fail
        refine (RMerge_calls y data mask _ hpl hd).mono ?_
        rintro e w2 ⟨rfl, rfl⟩
        go_wp2_with fail
        refine plan_same ⟨⟨_, (Upd.refl _ _).drew⟩, rfl⟩ ?_
        refine plan_next ?_
        simp only [opsAt, List.map_cons, List.map_nil, List.getElem?_toArray, List.getElem?_cons_zero, List.getElem?_cons_succ, Option.getD_some]
        repeat (go_big_quiet_step (fail))
        refine wpQuiet_nil ?_
        refine plan_one rfl ?_
        go_wp2_with fail
        have hml := mrgK_lt (mask := mask) hpl hd 4
        refine (RPut_calls _ b d l1 f2 (q : Int) (mrg y data mask) _ (H1.out.row.upd0 (Upd.refl _ _).drew) hml).mono ?_
        rintro e w3 ⟨rfl, r3, u3⟩
        have U3 : Upd [d] w1 w3 := ((Upd.refl [d] w1).drew).trans u3
        have H3 := Lib.hid (H1.out.step r3 U3 (by simp))
        go_wp2_with fail
        refine plan_same ⟨⟨_, U3⟩, rfl⟩ ?_
        refine plan_last ?_
        simp only [opsAt, List.map_cons, List.map_nil, List.getElem?_toArray, List.getElem?_cons_zero, List.getElem?_cons_succ, Option.getD_some]
        repeat (go_big_quiet_step (fail))
        refine wpQuiet_nil ?_
        unfold planEnd
        go_wp2_with fail
        go_ret
        exact ⟨rfl, H3.out, u.trans (U3.mono (by simp))⟩
      · have dz2 : ((z : Int) == 2) = false := by rw [beq_eq_false_iff_ne]; omega
        go_wp2_with (fail)
        have n0 : ∀ x : Near [d] w1, x.1.cell? ⟨mb, 0, none⟩ = some (.pointer (some ⟨b, 0, none⟩)) := fun x => by rw [cells_of (x.2.keep H1.out.cell (by have := H1.out.nd; simp; omega))]; rfl
        refine wp_region_plan (fun z => ∃ x : Near [d] w1, z = x.1) [([0, 1, 2, 3, 4, 5, 6, 7, 8, 9], 10), ([], 11)] [] (by kernel_rfl) (by kernel_rfl) (by kernel_rfl) (by kernel_rfl) (fun _ d _ _ _ h => by cases d <;> exact h) ⟨⟨(w1).drew, (Upd.refl _ _).drew⟩, rfl⟩ ?_
        refine plan_next ?_
        simp only [opsAt, List.map_cons, List.map_nil, List.getElem?_toArray, List.getElem?_cons_zero, List.getElem?_cons_succ, Option.getD_some]
        repeat (go_big_quiet_step (fail))
        refine wpQuiet_nil ?_
        refine plan_one rfl ?_
        go_wp2_with fail
        refine (RMerge_calls y data mask _ hpl hd).mono ?_
        rintro e w2 ⟨rfl, rfl⟩
        go_wp2_with fail
        refine plan_same ⟨⟨_, (Upd.refl _ _).drew⟩, rfl⟩ ?_
        refine plan_next ?_
        simp only [opsAt, List.map_cons, List.map_nil, List.getElem?_toArray, List.getElem?_cons_zero, List.getElem?_cons_succ, Option.getD_some]
        repeat (go_big_quiet_step (fail))
        refine wpQuiet_nil ?_
        refine plan_one rfl ?_
        go_wp2_with fail
        have hml := mrgK_lt (mask := mask) hpl hd 4
        refine (RPut_calls _ b d l1 f2 (q : Int) (mrg y data mask) _ (H1.out.row.upd0 (Upd.refl _ _).drew) hml).mono ?_
        rintro e w3 ⟨rfl, r3, u3⟩
        have U3 : Upd [d] w1 w3 := ((Upd.refl [d] w1).drew).trans u3
        have H3 := Lib.hid (H1.out.step r3 U3 (by simp))
        go_wp2_with fail
        refine plan_same ⟨⟨_, U3⟩, rfl⟩ ?_
        refine plan_last ?_
        simp only [opsAt, List.map_cons, List.map_nil, List.getElem?_toArray, List.getElem?_cons_zero, List.getElem?_cons_succ, Option.getD_some]
        repeat (go_big_quiet_step (fail))
        refine wpQuiet_nil ?_
        unfold planEnd
        go_wp2_with fail
        go_ret
        exact ⟨rfl, H3.out, u.trans (U3.mono (by simp))⟩
  · have e1 : mstoreE l v mask = mayE v := by rw [mstoreE, if_pos hm]
    have e2 : mstoreL l v data mask = l := by rw [mstoreL, if_pos hm]
    have e3 : mloadF l v = 0 := by rw [mloadF, if_pos hm]
    rw [e1, e2, e3]
    generalize mayE v = e at M hm ⊢
    have d0 : ((e : Int) != 0) = true := by rw [bne_iff_ne]; omega
    clear h e1 e2 e3 c0
    go_enter Tryd.func43, Tryd.ntmps43
    go_wp2_with (fail)
    refine M.out.mono ?_
    rintro e w' ⟨rfl, rfl⟩
    go_wp2_with (fail)
    go_ret
    exact ⟨rfl, H.out, Upd.refl _ _⟩
end Go.Proofs.YtfnemolaoijbhacDoor
