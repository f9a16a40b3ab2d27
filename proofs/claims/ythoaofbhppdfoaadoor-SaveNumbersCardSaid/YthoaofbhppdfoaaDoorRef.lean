/- The document's own code words. -/
import Derived.Test.YthoaofbhppdfoaaDoorCol
namespace Go.Proofs.YthoaofbhppdfoaaDoor
open Go.RowKit Go.Dio

set_option maxRecDepth 20000 in
set_option maxHeartbeats 1000000 in
theorem RefColumn_calls (b : Nat) (w : World) (h : b < 39) : Calls Tryd.prog 42 #[.int .i64 (b : Int)] w fun e w' => e = .returned (.int .i64 (col b : Int)) ∧ w' = w := by
  rcases Nat.lt_or_ge b 32 with h32 | h32
  · go_enter Tryd.func42, Tryd.ntmps42
    go_wp2_with (fail)
    go_loopw [3, 4] (fun v3 v18 wl => ∃ n k : Nat, v3 = .int .i64 (n : Int) ∧ v18 = .int .i64 (k : Int) ∧ k ≤ 128 ∧ n ≤ b ∧ Hid (n = cntN k) ∧ wl = w) (fun _ v18 _ => 128 - (intOf v18).toNat)
    case atStart => exact ⟨0, 0, rfl, rfl, by omega, by omega, rfl, rfl⟩
    case round =>
      obtain ⟨n, k, rfl, rfl, hk, hn, HN, rfl⟩ := hrel
      rcases Nat.lt_or_ge k 128 with hk2 | hk2
      · have hcall := Lib.hid (RefCount_calls k wr (by omega))
        have HC := Lib.hid (cnt_col k hk2)
        obtain ⟨p, hp⟩ : ∃ p, p = pop k := ⟨_, rfl⟩
        have HS : Hid (cntN (k + 1) = cntN k + (if p = 3 then 1 else 0)) := by show cntN (k + 1) = _; rw [hp, cntN]
        rw [← hp] at hcall HC
        have hpl : p ≤ 64 := by rw [hp]; exact pop_le k
        clear hp
        go_wp2_with (fail)
        refine hcall.out.mono ?_
        rintro e w1 ⟨rfl, rfl⟩
        by_cases h3 : p = 3
        · subst h3
          by_cases hb : n = b
          · obtain ⟨q1, q2⟩ := cast_eq_b hb
            have hr : col b = k := by have := HC.out rfl (by rw [← HN.out]; omega); rw [← HN.out, hb] at this; exact this
            have HR := Lib.hid hr
            clear hr
            go_wp2_with (fail)
            go_ret
            exact ⟨by rw [HR.out]; rfl, rfl⟩
          · obtain ⟨q1, q2⟩ := cast_ne_b hb
            go_wp2_with (fail)
            go_roundw
            case rel => exact ⟨n + 1, k + 1, by go_num, by go_num, by omega, by omega, by show n + 1 = cntN (k + 1); rw [HS.out, HN.out]; simp, trivial⟩
            case measure => simp [intOf]; omega
        · have q : ((p : Int) == 3) = false := by simp; omega
          go_wp2_with (fail)
          go_roundw
          case rel => exact ⟨n, k + 1, rfl, by go_num, by omega, by omega, by show n = cntN (k + 1); rw [HS.out, HN.out, if_neg h3, Nat.add_zero], trivial⟩
          case measure => simp [intOf]; omega
      · obtain rfl : k = 128 := by omega
        have := HN.out
        rw [cnt_all] at this
        omega
  · rcases (by omega : b = 32 ∨ b = 33 ∨ b = 34 ∨ b = 35 ∨ b = 36 ∨ b = 37 ∨ b = 38) with rfl | rfl | rfl | rfl | rfl | rfl | rfl
    all_goals
      go_enter Tryd.func42, Tryd.ntmps42
      go_wp2_with (fail)
      go_ret
      exact ⟨rfl, rfl⟩

set_option maxHeartbeats 1000000 in
theorem RefSyndrome_calls (n : Nat) (w : World) (hn : n < 2 ^ 64) : Calls Tryd.prog 41 #[.int .u64 (n : Int)] w fun e w' => e = .returned (.int .i64 (syn n : Int)) ∧ w' = w := by
  go_enter Tryd.func41, Tryd.ntmps41
  go_wp2_with (fail)
  go_loopw [3, 4] (fun v3 v4 wl => ∃ s k : Nat, v3 = .int .i64 (s : Int) ∧ v4 = .int .i64 (k : Int) ∧ k ≤ 39 ∧ s < 128 ∧ Hid (s = synN k n) ∧ wl = w) (fun _ v4 _ => 39 - (intOf v4).toNat)
  case atStart => exact ⟨0, 0, rfl, rfl, by omega, by omega, rfl, rfl⟩
  case round =>
    obtain ⟨s, k, rfl, rfl, hk, hs, HS, rfl⟩ := hrel
    rcases Nat.lt_or_ge k 39 with hk2 | hk2
    · have hsn := Lib.hid (show synN (k + 1) n = s ^^^ (if n.testBit k then col k else 0) by rw [synN, ← HS.out])
      have hcall := Lib.hid fun w => RefColumn_calls k w hk2
      have hcl := col_lt k hk2
      have hx := xori s (col k) (by omega) (by omega)
      have hxl : s ^^^ col k < 128 := Nat.xor_lt_two_pow (n := 7) hs hcl
      cases ht : n.testBit k
      · have hb : (bits .and .u64 ((n : Int) / (2 : Int) ^ k) 1 == 1) = false := by rw [bit_at n k hn, ht]
        rw [ht] at hsn
        go_wp2_with (fail)
        go_roundw
        case rel => exact ⟨s, k + 1, rfl, by go_num, by omega, hs, by show s = synN (k + 1) n; rw [hsn.out]; simp, trivial⟩
        case measure => simp [intOf]; omega
      · have hb : (bits .and .u64 ((n : Int) / (2 : Int) ^ k) 1 == 1) = true := by rw [bit_at n k hn, ht]
        rw [ht] at hsn
        go_wp2_with (fail)
        refine (hcall.out _).mono ?_
        rintro e w1 ⟨rfl, rfl⟩
        go_wp2_with (fail)
        go_roundw
        case rel => exact ⟨s ^^^ col k, k + 1, rfl, by go_num, by omega, hxl, by show s ^^^ col k = synN (k + 1) n; rw [hsn.out]; simp, trivial⟩
        case measure => simp [intOf]; omega
    · obtain rfl : k = 39 := by omega
      go_wp2_with (fail)
      go_ret
      exact ⟨by rw [HS.out]; rfl, rfl⟩

set_option maxHeartbeats 1000000 in
theorem RefMend_calls (n : Nat) (w : World) (hn : n < 2 ^ 64) : Calls Tryd.prog 36 #[.int .u64 (n : Int)] w fun e w' => e = .returned (.tuple #[.int .u64 ((mend n).1 : Int), .int .i64 ((mend n).2 : Int)]) ∧ w' = w := by
  have hm := and_whole hn
  obtain ⟨m, hm0⟩ : ∃ m, m = n % 2 ^ 39 := ⟨_, rfl⟩
  have hml : m < 2 ^ 39 := by rw [hm0]; exact Nat.mod_lt _ (by decide)
  have hs : syn n = syn m := by rw [hm0, syn_mod]
  rw [← hm0] at hm
  obtain ⟨x, y, hxy⟩ : ∃ x y, mend n = (x, y) := ⟨_, _, rfl⟩
  have hv := hxy
  rw [mend, hs, ← hm0] at hv
  rw [hxy]
  have HV := Lib.hid hv
  have hcall := Lib.hid fun w' => RefSyndrome_calls m w' (by omega)
  obtain ⟨s, hs0⟩ : ∃ s, s = syn m := ⟨_, rfl⟩
  have hsl : s < 128 := by rw [hs0]; exact syn_lt _
  rw [← hs0] at HV hcall
  clear hs hm0 hv hxy hs0
  go_enter Tryd.func36, Tryd.ntmps36
  go_wp2_with (fail)
  refine (hcall.out _).mono ?_
  rintro e w1 ⟨rfl, rfl⟩
  rcases Nat.eq_zero_or_pos s with h0 | h0
  · subst h0
    have hv := HV.out
    rw [if_pos rfl] at hv
    cases hv
    go_wp2_with (fail)
    go_ret2
    exact ⟨rfl, rfl⟩
  · have hne : ((s : Int) == 0) = false := by simp; omega
    have hv := HV.out
    rw [if_neg (by omega)] at hv
    have HV2 := Lib.hid hv
    clear hv HV
    go_wp2_with (fail)
    go_loopw [5] (fun v15 wl => ∃ i : Nat, v15 = .int .i64 (i : Int) ∧ i ≤ 39 ∧ Hid (∀ j, j < i → col j ≠ s) ∧ wl = w1) (fun v15 _ => 39 - (intOf v15).toNat)
    case atStart => exact ⟨0, rfl, by omega, fun j hj => by omega, rfl⟩
    case round =>
      obtain ⟨i, rfl, hi, HA, rfl⟩ := hrel
      rcases Nat.lt_or_ge i 39 with h39 | h39
      · have hcol := Lib.hid fun w => RefColumn_calls i w h39
        have hcl := col_lt i h39
        by_cases he : col i = s
        · obtain ⟨hb1, hb2⟩ := cast_eq_b he
          have hv := HV2.out
          rw [← he, colAt_col i h39] at hv
          cases hv
          have HE := Lib.hid he
          clear he
          have hp := pow64 i (by omega)
          have hx := xor_pow m i (by omega) (by omega)
          go_wp2_with (fail)
          refine (hcol.out _).mono ?_
          rintro e w2 ⟨rfl, rfl⟩
          go_wp2_with (fail)
          go_ret2
          exact ⟨rfl, rfl⟩
        · obtain ⟨hb1, hb2⟩ := cast_ne_b he
          have HE := Lib.hid he
          clear he
          go_wp2_with (fail)
          refine (hcol.out _).mono ?_
          rintro e w2 ⟨rfl, rfl⟩
          go_wp2_with (fail)
          go_roundw
          case rel =>
            refine ⟨i + 1, by go_num, by omega, ?_, trivial⟩
            intro j hj
            rcases Nat.lt_or_ge j i with h | h
            · exact HA.out j h
            · obtain rfl : j = i := by omega
              exact HE.out
          case measure => simp [intOf]; omega
      · obtain rfl : i = 39 := by omega
        have hv := HV2.out
        rw [colAt_none HA.out] at hv
        cases hv
        go_wp2_with (fail)
        go_ret2
        exact ⟨rfl, rfl⟩

set_option maxHeartbeats 1000000 in
theorem RefEncode_calls (n : Nat) (w : World) (hn : n < 2 ^ 32) : Calls Tryd.prog 37 #[.int .u32 (n : Int)] w fun e w' => e = .returned (.int .u64 (enc n : Int)) ∧ w' = w := by
  have hcall := Lib.hid (RefSyndrome_calls n w (by omega))
  rw [enc]
  have hl := syn_lt n
  obtain ⟨s, hs⟩ : ∃ s, s = syn n := ⟨_, rfl⟩
  rw [← hs] at hcall hl ⊢
  clear hs
  have hsh : s <<< 32 = s * 4294967296 := by rw [Nat.shiftLeft_eq]
  have ho := or_high n s (by omega) (by omega)
  rw [hsh]
  clear hsh
  go_enter Tryd.func37, Tryd.ntmps37
  go_wp2_with (fail)
  refine hcall.out.mono ?_
  rintro e w1 ⟨rfl, rfl⟩
  go_wp2_with (fail)
  go_ret
  exact ⟨by go_num, rfl⟩
end Go.Proofs.YthoaofbhppdfoaaDoor
