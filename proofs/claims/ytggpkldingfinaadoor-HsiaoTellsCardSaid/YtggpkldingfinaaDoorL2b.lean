/- Law 2: the same as the document's; the walks of the four laws. -/
import Derived.Test.YtggpkldingfinaaDoorL2a
namespace Go.Proofs.YtggpkldingfinaaDoor
open Go.RowKit Go.Dio

set_option maxHeartbeats 1000000 in
theorem same2_calls (x n : Nat) (w : World) (hx : x < 2 ^ 64) (hn : n < 2 ^ 32) (hT : Tz w) : Calls Tryd.prog 13 #[.int .u64 (x : Int), .int .u32 (n : Int)] w fun e w' => e = .returned (.bool true) ∧ Below w.heap.size w w' := by
  have H := Lib.hid (In.start hT)
  clear hT
  have D := Lib.hid fun w' (h : In w w') => Decode_calls x w' hx h.1
  have M := Lib.hid fun w' (h : In w w') => Mend_calls x w' hx h.1
  have RD := Lib.hid fun w' => RefDecode_calls x w' hx
  have RM := Lib.hid fun w' => RefMend_calls x w' hx
  have S := Lib.hid fun w' (h : In w w') => Syndrome_calls x w' hx h.1
  have hm := and_whole hx
  have RS := Lib.hid fun w' => RefSyndrome_calls (x % 2 ^ 39) w' (by omega)
  rw [syn_mod] at RS
  obtain ⟨m, hm0⟩ : ∃ m, m = x % 2 ^ 39 := ⟨_, rfl⟩
  rw [← hm0] at hm RS
  clear hm0
  have E := Lib.hid fun w' (h : In w w') => Encode_calls n w' hn h.1
  have RE := Lib.hid fun w' => RefEncode_calls n w' hn
  have hs := syn_lt x
  obtain ⟨s, hs0⟩ : ∃ s, s = syn x := ⟨_, rfl⟩
  rw [← hs0] at hs S RS
  obtain ⟨d, st, hd⟩ : ∃ d st, dec x = (d, st) := ⟨_, _, rfl⟩
  rw [hd] at D RD
  obtain ⟨v, su, hv⟩ : ∃ v su, mend x = (v, su) := ⟨_, _, rfl⟩
  rw [hv] at M RM
  obtain ⟨c, hc⟩ : ∃ c, c = enc n := ⟨_, rfl⟩
  rw [← hc] at E RE
  clear hs0 hd hv hc
  go_enter Tryd.func13, Tryd.ntmps13
  go_wp2_with (fail)
  refine (D.out _ H.out).mono ?_
  rintro e w' ⟨rfl, hb⟩
  replace H := Lib.hid (H.out.step hb)
  clear hb
  go_wp2_with (fail)
  refine (RD.out _).mono ?_
  rintro e w' ⟨rfl, rfl⟩
  go_wp2_with (fail)
  refine (M.out _ H.out).mono ?_
  rintro e w' ⟨rfl, hb⟩
  replace H := Lib.hid (H.out.step hb)
  clear hb
  go_wp2_with (fail)
  refine (RM.out _).mono ?_
  rintro e w' ⟨rfl, rfl⟩
  go_wp2_with (fail)
  refine (S.out _ H.out).mono ?_
  rintro e w' ⟨rfl, hb⟩
  replace H := Lib.hid (H.out.step hb)
  clear hb
  go_wp2_with (fail)
  refine (RS.out _).mono ?_
  rintro e w' ⟨rfl, rfl⟩
  go_wp2_with (fail)
  refine (E.out _ H.out).mono ?_
  rintro e w' ⟨rfl, hb⟩
  replace H := Lib.hid (H.out.step hb)
  clear hb
  go_wp2_with (fail)
  refine (RE.out _).mono ?_
  rintro e w' ⟨rfl, rfl⟩
  go_wp2_with (fail)
  go_ret
  exact ⟨rfl, H.out.2⟩

set_option maxHeartbeats 1000000 in
theorem mends_walk (n : Nat) (a b : Int) (w : World) (hn : n < 2 ^ 32) (hT : Tz w) : Calls Tryd.prog 4 #[.int .u32 (n : Int), .int .i64 a, .int .i64 b] w fun e w' => e = .returned (.bool true) ∧ Below w.heap.size w w' := by
  have H := Lib.hid (In.start hT)
  clear hT
  obtain ⟨a', ha1, ha⟩ := andi63 a
  obtain ⟨b', hb1, hb⟩ := andi63 b
  obtain ⟨i, hi0⟩ : ∃ i, i = a' % 39 := ⟨_, rfl⟩
  obtain ⟨k, hk0⟩ : ∃ k, k = b' % 39 := ⟨_, rfl⟩
  have hi : i < 39 := by omega
  have hk : k < 39 := by omega
  have hia : (a' : Int) % 39 = (i : Int) := by omega
  have hkb : (b' : Int) % 39 = (k : Int) := by omega
  clear hi0 hk0
  have hel := enc_lt hn
  have E := Lib.hid fun w' (h : In w w') => Encode_calls n w' hn h.1
  have D0 := Lib.hid fun w' (h : In w w') => Decode_calls (enc n) w' (by omega) h.1
  rw [dec_enc hn] at D0
  have hf := flip_lt hel hi
  have D1 := Lib.hid fun w' (h : In w w') => Decode_calls (enc n ^^^ 2 ^ i) w' (by omega) h.1
  rw [dec_flip hn hi] at D1
  have M1 := Lib.hid fun w' (h : In w w') => Mend_calls (enc n ^^^ 2 ^ i) w' (by omega) h.1
  rw [mend_flip hn hi] at M1
  have hf2 := flip_lt hf hk
  have D2 := Lib.hid fun w' (h : In w w') => Decode_calls (enc n ^^^ 2 ^ i ^^^ 2 ^ k) w' (by omega) h.1
  have d2 : (dec (enc n ^^^ 2 ^ i ^^^ 2 ^ k)).2 = if i = k then 0 else 2 := mend_two_st hn hi hk
  have S0 := Lib.hid fun w' (h : In w w') => Syndrome_calls (enc n) w' (by omega) h.1
  rw [syn_enc hn] at S0
  have K := Lib.hid fun w' (h : In w w') => known2_calls w' h.1
  have x1 := xor_pow (enc n) i (by omega) (by omega)
  generalize enc n = c at E D0 D1 M1 D2 d2 S0 x1 hel hf hf2
  generalize c ^^^ 2 ^ i = c1 at D1 M1 D2 d2 x1 hf hf2
  have x2 := xor_pow c1 k (by omega) (by omega)
  generalize c1 ^^^ 2 ^ k = c2 at D2 d2 x2 hf2
  obtain ⟨y, z, hyz⟩ : ∃ y z, dec c2 = (y, z) := ⟨_, _, rfl⟩
  rw [hyz] at D2 d2
  have hz : ((z : Int) == 2) = decide (i ≠ k) := by simp only at d2; rw [d2]; by_cases e : i = k <;> simp [e]
  have hne : ((i : Int) != (k : Int)) = decide (i ≠ k) := by by_cases e : i = k <;> simp [e]; omega
  clear hyz d2
  have p1 := pow64 i (by omega)
  have p2 := pow64 k (by omega)
  go_enter Tryd.func4, Tryd.ntmps4
  go_wp2_with (fail)
  refine (E.out _ H.out).mono ?_
  rintro e w' ⟨rfl, hb⟩
  replace H := Lib.hid (H.out.step hb)
  clear hb
  go_wp2_with (fail)
  refine (D0.out _ H.out).mono ?_
  rintro e w' ⟨rfl, hb⟩
  replace H := Lib.hid (H.out.step hb)
  clear hb
  go_wp2_with (fail)
  refine (D1.out _ H.out).mono ?_
  rintro e w' ⟨rfl, hb⟩
  replace H := Lib.hid (H.out.step hb)
  clear hb
  go_wp2_with (fail)
  refine (M1.out _ H.out).mono ?_
  rintro e w' ⟨rfl, hb⟩
  replace H := Lib.hid (H.out.step hb)
  clear hb
  go_wp2_with (fail)
  refine (D2.out _ H.out).mono ?_
  rintro e w' ⟨rfl, hb⟩
  replace H := Lib.hid (H.out.step hb)
  clear hb
  go_wp2_with (fail)
  refine (S0.out _ H.out).mono ?_
  rintro e w' ⟨rfl, hb⟩
  replace H := Lib.hid (H.out.step hb)
  clear hb
  go_wp2_with (fail)
  refine (K.out _ H.out).mono ?_
  rintro e w' ⟨rfl, hb⟩
  replace H := Lib.hid (H.out.step hb)
  clear hb
  go_wp2_with (fail)
  go_ret
  exact ⟨rfl, H.out.2⟩
end Go.Proofs.YtggpkldingfinaaDoor
