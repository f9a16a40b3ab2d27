/- Law 2: three more walks. -/
import Derived.Test.YtggpkldingfinaaDoorL2b
namespace Go.Proofs.YtggpkldingfinaaDoor
open Go.RowKit Go.Dio

set_option maxHeartbeats 1000000 in
theorem tells2_walk (x n : Nat) (a b c : Int) (w : World) (hx : x < 2 ^ 64) (hn : n < 2 ^ 32) (hT : Tz w) : Calls Tryd.prog 3 #[.int .u64 (x : Int), .int .u32 (n : Int), .int .i64 a, .int .i64 b, .int .i64 c] w fun e w' => e = .returned (.bool true) ∧ Below w.heap.size w w' := by
  have H := Lib.hid (In.start hT)
  clear hT
  obtain ⟨a', ha1, ha⟩ := andi63 a
  obtain ⟨b', hb1, hb⟩ := andi63 b
  obtain ⟨c', hc1, hc⟩ := andi63 c
  obtain ⟨i, hi0⟩ : ∃ i, i = a' % 39 := ⟨_, rfl⟩
  obtain ⟨k, hk0⟩ : ∃ k, k = b' % 39 := ⟨_, rfl⟩
  obtain ⟨l, hl0⟩ : ∃ l, l = c' % 39 := ⟨_, rfl⟩
  have hi : i < 39 := by omega
  have hk : k < 39 := by omega
  have hl : l < 39 := by omega
  have hia : (a' : Int) % 39 = (i : Int) := by omega
  have hkb : (b' : Int) % 39 = (k : Int) := by omega
  have hlc : (c' : Int) % 39 = (l : Int) := by omega
  clear hi0 hk0 hl0
  have hel := enc_lt hn
  have E := Lib.hid fun w' => RefEncode_calls n w' hn
  generalize enc n = c at E hel
  have hm := and_whole hx
  have hml : x % 2 ^ 39 < 2 ^ 39 := Nat.mod_lt _ (by decide)
  generalize x % 2 ^ 39 = m at hm hml
  have x1 := xor_pow c i (by omega) (by omega)
  have hf := flip_lt hel hi
  generalize c ^^^ 2 ^ i = c1 at x1 hf
  have x2 := xor_pow c1 k (by omega) (by omega)
  have hf2 := flip_lt hf hk
  generalize c1 ^^^ 2 ^ k = c2 at x2 hf2
  have x3 := xor_pow c2 l (by omega) (by omega)
  have hf3 := flip_lt hf2 hl
  generalize c2 ^^^ 2 ^ l = c3 at x3 hf3
  have S0 := Lib.hid fun w' (h : In w w') => same2_calls x n w' hx hn h.1
  have Sm := Lib.hid fun w' (h : In w w') => same2_calls m n w' (by omega) hn h.1
  have S1 := Lib.hid fun w' (h : In w w') => same2_calls c1 n w' (by omega) hn h.1
  have S2 := Lib.hid fun w' (h : In w w') => same2_calls c2 n w' (by omega) hn h.1
  have S3 := Lib.hid fun w' (h : In w w') => same2_calls c3 n w' (by omega) hn h.1
  have K := Lib.hid fun w' (h : In w w') => known2_calls w' h.1
  have p1 := pow64 i (by omega)
  have p2 := pow64 k (by omega)
  have p3 := pow64 l (by omega)
  go_enter Tryd.func3, Tryd.ntmps3
  go_wp2_with (fail)
  refine (E.out _).mono ?_
  rintro e w' ⟨rfl, rfl⟩
  go_wp2_with (fail)
  refine (S0.out _ H.out).mono ?_
  rintro e w' ⟨rfl, hb⟩
  replace H := Lib.hid (H.out.step hb)
  clear hb
  go_wp2_with (fail)
  refine (Sm.out _ H.out).mono ?_
  rintro e w' ⟨rfl, hb⟩
  replace H := Lib.hid (H.out.step hb)
  clear hb
  go_wp2_with (fail)
  refine (S1.out _ H.out).mono ?_
  rintro e w' ⟨rfl, hb⟩
  replace H := Lib.hid (H.out.step hb)
  clear hb
  go_wp2_with (fail)
  refine (S2.out _ H.out).mono ?_
  rintro e w' ⟨rfl, hb⟩
  replace H := Lib.hid (H.out.step hb)
  clear hb
  go_wp2_with (fail)
  refine (S3.out _ H.out).mono ?_
  rintro e w' ⟨rfl, hb⟩
  replace H := Lib.hid (H.out.step hb)
  clear hb
  go_wp2_with (fail)
  refine (K.out _ H.out).mono ?_
  rintro e w' ⟨rfl, hb⟩
  replace H := Lib.hid (H.out.step hb)
  clear hb
  go_wp2_with (fail)
  go_ret
  exact ⟨rfl, H.out.2⟩

set_option maxHeartbeats 1000000 in
theorem data_walk (n : Nat) (a : Int) (w : World) (hn : n < 2 ^ 32) (hT : Tz w) : Calls Tryd.prog 6 #[.int .u32 (n : Int), .int .i64 a] w fun e w' => e = .returned (.bool true) ∧ Below w.heap.size w w' := by
  have H := Lib.hid (In.start hT)
  clear hT
  obtain ⟨a', ha1, ha⟩ := andi63 a
  obtain ⟨i, hi0⟩ : ∃ i, i = a' % 39 := ⟨_, rfl⟩
  have hi : i < 39 := by omega
  have hia : (a' : Int) % 39 = (i : Int) := by omega
  clear hi0
  have hel := enc_lt hn
  have E := Lib.hid fun w' (h : In w w') => Encode_calls n w' hn h.1
  have hf := flip_lt hel hi
  have M1 := Lib.hid fun w' (h : In w w') => Mend_calls (enc n ^^^ 2 ^ i) w' (by omega) h.1
  rw [mend_flip hn hi] at M1
  have S1 := Lib.hid fun w' (h : In w w') => Syndrome_calls (enc n ^^^ 2 ^ i) w' (by omega) h.1
  rw [syn_flip hn hi] at S1
  have C := Lib.hid fun w' => Column_calls i w' hi
  have K := Lib.hid fun w' (h : In w w') => known2_calls w' h.1
  have hmod := enc_mod hn
  have hcl := col_lt i hi
  have hcp := col_pos i hi
  generalize enc n = c at E M1 S1 hel hf hmod
  have x1 := xor_pow c i (by omega) (by omega)
  generalize c ^^^ 2 ^ i = c1 at M1 S1 x1 hf
  generalize col i = s at S1 C hcl hcp
  have hw : IntKind.u32.wrap (c : Int) = (n : Int) := by rw [IntKind.wrap_u32]; omega
  have hw2 : (c : Int) % 4294967296 = (n : Int) := by omega
  have hlt : decide ((c : Int) < 549755813888) = true := by rw [decide_eq_true_iff]; omega
  have hne : ((s : Int) != 0) = true := by simp; omega
  have p1 := pow64 i (by omega)
  go_enter Tryd.func6, Tryd.ntmps6
  go_wp2_with (fail)
  refine (E.out _ H.out).mono ?_
  rintro e w' ⟨rfl, hb⟩
  replace H := Lib.hid (H.out.step hb)
  clear hb
  go_wp2_with (fail)
  refine (M1.out _ H.out).mono ?_
  rintro e w' ⟨rfl, hb⟩
  replace H := Lib.hid (H.out.step hb)
  clear hb
  go_wp2_with (fail)
  refine (S1.out _ H.out).mono ?_
  rintro e w' ⟨rfl, hb⟩
  replace H := Lib.hid (H.out.step hb)
  clear hb
  go_wp2_with (fail)
  refine (C.out _).mono ?_
  rintro e w' ⟨rfl, hb⟩
  replace H := Lib.hid (H.out.step hb)
  clear hb
  go_wp2_with (fail)
  refine (K.out _ H.out).mono ?_
  rintro e w' ⟨rfl, hb⟩
  replace H := Lib.hid (H.out.step hb)
  clear hb
  go_wp2_with (fail)
  go_ret
  exact ⟨rfl, H.out.2⟩

theorem pop_col : ∀ i, i < 39 → pop (col i) = if i < 32 then 3 else 1 := by decide +kernel

set_option maxHeartbeats 1000000 in
theorem adds_walk (n m : Nat) (a b : Int) (w : World) (hn : n < 2 ^ 32) (hm : m < 2 ^ 32) (hT : Tz w) : Calls Tryd.prog 5 #[.int .u32 (n : Int), .int .u32 (m : Int), .int .i64 a, .int .i64 b] w fun e w' => e = .returned (.bool true) ∧ Below w.heap.size w w' := by
  have H := Lib.hid (In.start hT)
  clear hT
  obtain ⟨a', ha1, ha⟩ := andi63 a
  obtain ⟨b', hb1, hb⟩ := andi63 b
  obtain ⟨i, hi0⟩ : ∃ i, i = a' % 39 := ⟨_, rfl⟩
  obtain ⟨k, hk0⟩ : ∃ k, k = b' % 39 := ⟨_, rfl⟩
  have hi : i < 39 := by omega
  have hk : k < 39 := by omega
  have hia : (a' : Int) % 39 = (i : Int) := by omega
  have hkb : (b' : Int) % 39 = (k : Int) := by omega
  have hia2 : (a' : Int).tmod 39 = (i : Int) := by rw [Int.tmod_eq_emod_of_nonneg (by omega)]; exact hia
  have hkb2 : (b' : Int).tmod 39 = (k : Int) := by rw [Int.tmod_eq_emod_of_nonneg (by omega)]; exact hkb
  clear hi0 hk0
  have Ci := Lib.hid fun w' => Column_calls i w' hi
  have Ck := Lib.hid fun w' => Column_calls k w' hk
  have hci := col_lt i hi
  have hck := col_lt k hk
  have hpc := pop_col i hi
  have P := Lib.hid fun w' => RefCount_calls (col i) w' (by omega)
  have hin : ((col i : Int) == (col k : Int)) = decide (i = k) := by
    by_cases e : i = k
    · subst e; simp
    · have : col i ≠ col k := fun h => e (col_inj i hi k hk h)
      simp [e]; omega
  have hik : ((i : Int) == (k : Int)) = decide (i = k) := by by_cases e : i = k <;> simp [e]; omega
  have En := Lib.hid fun w' (h : In w w') => Encode_calls n w' hn h.1
  have Em := Lib.hid fun w' (h : In w w') => Encode_calls m w' hm h.1
  have hxl : n ^^^ m < 2 ^ 32 := Nat.xor_lt_two_pow hn hm
  have Ex := Lib.hid fun w' (h : In w w') => Encode_calls (n ^^^ m) w' hxl h.1
  rw [enc_add hn hm] at Ex
  have x1 := xor64 (enc n) (enc m) (by have := enc_lt hn; omega) (by have := enc_lt hm; omega)
  have x2 := xor32 n m hn hm
  have K := Lib.hid fun w' (h : In w w') => known2_calls w' h.1
  generalize pop (col i) = p at P hpc
  generalize col i = ci at Ci P hci hin
  generalize col k = ck at Ck hck hin
  generalize enc n ^^^ enc m = cx at Ex x1
  generalize enc n = cn at En x1
  generalize enc m = cm at Em x1
  generalize n ^^^ m = nm at Ex x2 hxl
  have q3 : ((p : Int) == 3) = decide (i < 32) := by subst hpc; by_cases e : i < 32 <;> simp [e]
  have q1 : ((p : Int) == 1) = decide (32 ≤ i) := by subst hpc; by_cases e : i < 32 <;> simp [e]; omega
  have r3 : decide ((i : Int) < 32) = decide (i < 32) := by by_cases e : i < 32 <;> simp [e] <;> omega
  have r1 : decide ((32 : Int) ≤ (i : Int)) = decide (32 ≤ i) := by by_cases e : 32 ≤ i <;> simp [e] <;> omega
  clear hpc
  go_enter Tryd.func5, Tryd.ntmps5
  go_wp2_with (fail)
  refine (Ci.out _).mono ?_
  rintro e w' ⟨rfl, hb⟩
  replace H := Lib.hid (H.out.step hb)
  clear hb
  go_wp2_with (fail)
  refine (P.out _).mono ?_
  rintro e w' ⟨rfl, rfl⟩
  go_wp2_with (fail)
  refine (En.out _ H.out).mono ?_
  rintro e w' ⟨rfl, hb⟩
  replace H := Lib.hid (H.out.step hb)
  clear hb
  go_wp2_with (fail)
  refine (Em.out _ H.out).mono ?_
  rintro e w' ⟨rfl, hb⟩
  replace H := Lib.hid (H.out.step hb)
  clear hb
  go_wp2_with (fail)
  refine (Ex.out _ H.out).mono ?_
  rintro e w' ⟨rfl, hb⟩
  replace H := Lib.hid (H.out.step hb)
  clear hb
  go_wp2_with (fail)
  refine (Ci.out _).mono ?_
  rintro e w' ⟨rfl, hb⟩
  replace H := Lib.hid (H.out.step hb)
  clear hb
  go_wp2_with (fail)
  refine (Ck.out _).mono ?_
  rintro e w' ⟨rfl, hb⟩
  replace H := Lib.hid (H.out.step hb)
  clear hb
  go_wp2_with (fail)
  refine (K.out _ H.out).mono ?_
  rintro e w' ⟨rfl, hb⟩
  replace H := Lib.hid (H.out.step hb)
  clear hb
  go_wp2_with (fail)
  go_ret
  exact ⟨rfl, H.out.2⟩
end Go.Proofs.YtggpkldingfinaaDoor
