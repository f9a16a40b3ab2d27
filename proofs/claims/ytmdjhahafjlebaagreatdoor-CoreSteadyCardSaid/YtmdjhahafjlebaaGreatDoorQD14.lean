/- hsiao.Mend, Decode, Encode. -/
import Derived.Test.YtmdjhahafjlebaaGreatDoorQD03
import Derived.WalkMore
namespace Go.Proofs.YtmdjhahafjlebaaGreatDoor
open Go.RowKit Go.Dio

theorem index_cols (k : Nat) (hk : k < 39) (w : World) : (Instr.index 165 (.agg (nums .u8 cols)) (.int .i64 (k : Int))).run Tryz.prog w = .ok (.int .u8 ((col k : Nat) : Int)) w :=
  run_index_nums 165 5 39 .u8 cols k Tryz.underlying165 (by intro w; simp [go_sem]) (by intro w; simp [go_sem]) rfl hk w

set_option maxHeartbeats 1000000 in
theorem Mend_calls (n : Nat) (w : World) (hn : n < 2 ^ 64) (hT : Tz w) : Calls Tryz.prog 127 #[.int .u64 (n : Int)] w fun e w' => e = .returned (.tuple #[.int .u64 ((mend n).1 : Int), .int .i64 ((mend n).2 : Int)]) ∧ Below w.heap.size w w' := by
  have HT := Lib.hid hT
  clear hT
  have hm := and_whole hn
  obtain ⟨m, hm0⟩ : ∃ m, m = n % 2 ^ 39 := ⟨_, rfl⟩
  have hml : m < 2 ^ 39 := by rw [hm0]; exact Nat.mod_lt _ (by decide)
  have hs : syn n = syn m := by rw [hm0, syn_mod]
  rw [← hm0] at hm
  obtain ⟨x, y, hxy⟩ : ∃ x y, mend n = (x, y) := ⟨_, _, rfl⟩
  have hv := hxy
  rw [mend, hs, ← hm0] at hv
  rw [hxy]
  have HV := Lib.hid hv
  have hcall := Lib.hid fun w' hw => Syndrome_calls m w' (by omega) hw
  obtain ⟨s, hs0⟩ : ∃ s, s = syn m := ⟨_, rfl⟩
  have hsl : s < 128 := by rw [hs0]; exact syn_lt _
  rw [← hs0] at HV hcall
  clear hs hm0 hv hxy hs0
  go_enter Tryz.func127, Tryz.ntmps127
  go_wp2_with (fail)
  refine (hcall.out _ HT.out).mono ?_
  rintro e w1 ⟨rfl, hb1⟩
  rcases Nat.eq_zero_or_pos s with h0 | h0
  · subst h0
    have hv := HV.out
    rw [if_pos rfl] at hv
    cases hv
    go_wp2_with (fail)
    go_ret2
    exact ⟨rfl, hb1⟩
  · have hne : ((s : Int) == 0) = false := by simp; omega
    have hv := HV.out
    rw [if_neg (by omega)] at hv
    have HV2 := Lib.hid hv
    clear hv HV
    go_wp2_with (fail)
    refine (columns_calls _).mono ?_
    rintro e w2 ⟨rfl, hb2⟩
    have hB := Lib.hid (hb1.trans (hb2.mono hb1.size))
    clear hb1 hb2 hcall
    go_wp2_with (fail)
    go_loopw [15] (fun v15 wl => ∃ i : Nat, v15 = .int .i64 (i : Int) ∧ i ≤ 39 ∧ Hid (∀ j, j < i → col j ≠ s) ∧ wl = w2) (fun v15 _ => 39 - (intOf v15).toNat)
    case atStart => exact ⟨0, rfl, by omega, fun j hj => by omega, rfl⟩
    case round =>
      obtain ⟨i, rfl, hi, HA, rfl⟩ := hrel
      rcases Nat.lt_or_ge i 39 with h39 | h39
      · have hix := index_cols i h39
        have hcl := col_lt i h39
        by_cases he : col i = s
        · obtain ⟨hb1, hb2⟩ := cast_eq_b he
          have hv := HV2.out
          rw [← he, colAt_col i h39] at hv
          cases hv
          have HE := Lib.hid he
          clear he
          have hp := pow64 i (by omega)
          have hx := xor_pow m i (by omega) (by omega)
          go_wp2_with (fail)
          go_ret2
          exact ⟨rfl, hB.out⟩
        · obtain ⟨hb1, hb2⟩ := cast_ne_b he
          have HE := Lib.hid he
          clear he
          go_wp2_with (fail)
          go_roundw
          case rel =>
            refine ⟨i + 1, by go_num, by omega, ?_, trivial⟩
            intro j hj
            rcases Nat.lt_or_ge j i with h | h
            · exact HA.out j h
            · obtain rfl : j = i := by omega
              exact HE.out
          case measure => simp [intOf]; omega
      · obtain rfl : i = 39 := by omega
        have hv := HV2.out
        rw [colAt_none HA.out] at hv
        cases hv
        go_wp2_with (fail)
        go_ret2
        exact ⟨rfl, hB.out⟩

set_option maxHeartbeats 1000000 in
theorem Decode_calls (n : Nat) (w : World) (hn : n < 2 ^ 64) (hT : Tz w) : Calls Tryz.prog 82 #[.int .u64 (n : Int)] w fun e w' => e = .returned (.tuple #[.int .u32 ((dec n).1 : Int), .int .i64 ((dec n).2 : Int)]) ∧ Below w.heap.size w w' := by
  have hcall := Lib.hid (Mend_calls n w hn hT)
  clear hT
  rw [dec]
  have hl := mend_lt n
  obtain ⟨x, y, hxy⟩ : ∃ x y, mend n = (x, y) := ⟨_, _, rfl⟩
  rw [hxy] at hcall hl ⊢
  simp only at hcall hl ⊢
  clear hxy
  have hm : bits .and .u64 (x : Int) 4294967295 = ((x % 2 ^ 32 : Nat) : Int) := by
    have e : (4294967295 : Int) = ((2 ^ 32 - 1 : Nat) : Int) := by decide
    rw [e, and64 x _ (by omega) (by decide), Nat.and_two_pow_sub_one_eq_mod]
  obtain ⟨z, hz⟩ : ∃ z, z = x % 2 ^ 32 := ⟨_, rfl⟩
  have hzl : z < 2 ^ 32 := by rw [hz]; exact Nat.mod_lt _ (by decide)
  rw [← hz] at hm ⊢
  clear hz
  go_enter Tryz.func82, Tryz.ntmps82
  go_wp2_with (fail)
  refine hcall.out.mono ?_
  rintro e w1 ⟨rfl, hb1⟩
  go_wp2_with (fail)
  go_ret2
  exact ⟨by go_num, hb1⟩

set_option maxHeartbeats 1000000 in
theorem Encode_calls (n : Nat) (w : World) (hn : n < 2 ^ 32) (hT : Tz w) : Calls Tryz.prog 83 #[.int .u32 (n : Int)] w fun e w' => e = .returned (.int .u64 (enc n : Int)) ∧ Below w.heap.size w w' := by
  have hcall := Lib.hid (Syndrome_calls n w (by omega) hT)
  clear hT
  rw [enc]
  have hl := syn_lt n
  obtain ⟨s, hs⟩ : ∃ s, s = syn n := ⟨_, rfl⟩
  rw [← hs] at hcall hl ⊢
  clear hs
  have hsh : s <<< 32 = s * 4294967296 := by rw [Nat.shiftLeft_eq]
  have ho := or_high n s (by omega) (by omega)
  rw [hsh]
  clear hsh
  go_enter Tryz.func83, Tryz.ntmps83
  go_wp2_with (fail)
  refine hcall.out.mono ?_
  rintro e w1 ⟨rfl, hb1⟩
  go_wp2_with (fail)
  go_ret
  exact ⟨by go_num, hb1⟩
end Go.Proofs.YtmdjhahafjlebaaGreatDoor

namespace Go.Proofs.YtmdjhahafjlebaaGreatDoor
open Go.RowKit Go.Dio

end Go.Proofs.YtmdjhahafjlebaaGreatDoor

namespace Go.Proofs.YtmdjhahafjlebaaGreatDoor
open Go.RowKit Go.Dio

end Go.Proofs.YtmdjhahafjlebaaGreatDoor
