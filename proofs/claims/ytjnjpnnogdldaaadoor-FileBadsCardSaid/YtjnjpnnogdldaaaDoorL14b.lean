/- Law 14: FileBads. -/
import Derived.Test.YtjnjpnnogdldaaaDoorL14k
import Derived.Test.YtjnjpnnogdldaaaDoorWd
namespace Go.Proofs.YtjnjpnnogdldaaaDoor
open Go.RowKit Go.Dio
set_option linter.unusedSimpArgs false
set_option linter.unusedVariables false

theorem nth_rep' (n j : Nat) : nth (List.replicate n 0) j = 0 := by
  unfold nth
  rw [List.getD, List.getElem?_replicate]
  split <;> rfl
theorem rd_same {l : List Nat} {k : Nat} (hk : k < l.length) (h : (dec (nth l k)).2 ≠ 1) : rdV l (1 + (k : Int)) = dec (nth l k) ∧ rdL l (1 + (k : Int)) = l ∧ rdF l (1 + (k : Int)) = 0 := by
  have e : (1 + (k : Int)) - 1 = (k : Int) := by omega
  have hp := peek_nat' hk
  have hg := getL_other (l := l) (i := (k : Int)) (by rw [hp]; exact h)
  rw [rdV, rdL, rdF, if_neg (by omega), if_neg (by omega), if_neg (by omega), e, hp]
  exact ⟨rfl, hg⟩
theorem wr_nat {l : List Nat} {k v : Nat} (hk : k < l.length) : wrL l (1 + (k : Int)) v = l.set k (enc v) := by
  have e : (1 + (k : Int)) - 1 = (k : Int) := by omega
  rw [wrL, if_neg (by omega), e, put_nat hk]
theorem dec_zero14 : dec 0 = (0, 0) := by decide +kernel

set_option maxRecDepth 20000 in
set_option maxHeartbeats 4000000 in
theorem bads14_walk (i : Int) (n m : Nat) (a b : Int) (w : World) (hn : n < 2 ^ 32) (hm : m < 2 ^ 32) (hT : Tz w) :
    Calls Tryd.prog 14 #[.int .i64 i, .int .u32 (n : Int), .int .u32 (m : Int), .int .i64 a, .int .i64 b] w fun e w' => e = .returned (.bool true) ∧ Below w.heap.size w w' := by
  have N1 := Lib.hid (E_fnew w hT)
  obtain ⟨l0, hl0⟩ : ∃ l0, l0 = List.replicate 31 0 := ⟨_, rfl⟩
  have z0 : ∀ j, nth l0 j = 0 := fun j => by rw [hl0, nth_rep']
  have n0 : l0.length = 31 := by rw [hl0]; rfl
  rw [← hl0] at N1
  clear hl0
  obtain ⟨i', hi1, hi⟩ := andi63 i
  obtain ⟨a', ha1, ha⟩ := andi63 a
  obtain ⟨b', hb1, hb⟩ := andi63 b
  obtain ⟨k, hk0⟩ : ∃ k, k = i' % 31 := ⟨_, rfl⟩
  obtain ⟨x, hx0⟩ : ∃ x, x = a' % 39 := ⟨_, rfl⟩
  obtain ⟨y, hy0⟩ : ∃ y, y = b' % 39 := ⟨_, rfl⟩
  obtain ⟨o, ho0⟩ : ∃ o, o = (1 + k) % 31 := ⟨_, rfl⟩
  have hk : k < 31 := by omega
  have hx : x < 39 := by omega
  have hy : y < 39 := by omega
  have ho : o < 31 := by omega
  have hok : o ≠ k := by omega
  have ki : (i' : Int) % 31 = (k : Int) := by omega
  have xi : (a' : Int) % 39 = (x : Int) := by omega
  have yi : (b' : Int) % 39 = (y : Int) := by omega
  have oi : (1 + (k : Int)) % 31 = (o : Int) := by omega
  clear hk0 hx0 hy0 ho0
  obtain ⟨W, hW⟩ : ∃ W, W = enc n ^^^ 2 ^ x ^^^ 2 ^ y := ⟨_, rfl⟩
  obtain ⟨l1, hl1⟩ : ∃ l1, l1 = l0.set k (enc n) := ⟨_, rfl⟩
  obtain ⟨l2, hl2⟩ : ∃ l2, l2 = l1.set k (enc n ^^^ 2 ^ x) := ⟨_, rfl⟩
  obtain ⟨l3, hl3⟩ : ∃ l3, l3 = l2.set k W := ⟨_, rfl⟩
  obtain ⟨l4, hl4⟩ : ∃ l4, l4 = l3.set k (enc m) := ⟨_, rfl⟩
  have n1 : l1.length = 31 := by rw [hl1]; simpa using n0
  have n2 : l2.length = 31 := by rw [hl2]; simpa using n1
  have n3 : l3.length = 31 := by rw [hl3]; simpa using n2
  have n4 : l4.length = 31 := by rw [hl4]; simpa using n3
  have v1 : nth l1 k = enc n := by rw [hl1]; exact nth_set_eq (by omega)
  have v2 : nth l2 k = enc n ^^^ 2 ^ x := by rw [hl2]; exact nth_set_eq (by omega)
  have v3 : nth l3 k = W := by rw [hl3]; exact nth_set_eq (by omega)
  have v4 : nth l4 k = enc m := by rw [hl4]; exact nth_set_eq (by omega)
  have u3 : ∀ j, j ≠ k → nth l3 j = 0 := fun j hj => by rw [hl3, nth_set_ne (Ne.symm hj), hl2, nth_set_ne (Ne.symm hj), hl1, nth_set_ne (Ne.symm hj), z0]
  have u4 : ∀ j, j ≠ k → nth l4 j = 0 := fun j hj => by rw [hl4, nth_set_ne (Ne.symm hj), u3 j hj]
  obtain ⟨S, hS⟩ : ∃ S : Nat, S = if x = y then 0 else 2 := ⟨_, rfl⟩
  obtain ⟨B, hB⟩ : ∃ B : Bool, B = decide (x = y) := ⟨_, rfl⟩
  have s3 : (dec W).2 = S := by rw [hW, hS]; exact mend_two_st hn hx hy
  have S1 : S ≠ 1 := by rw [hS]; split <;> omega
  have b3 : allB l3 = B := by
    rw [hB]
    by_cases e : x = y
    · rw [decide_eq_true e]
      refine allB_of n3 fun j hj => ?_
      by_cases e2 : j = k
      · rw [e2, v3, s3, hS, if_pos e]; omega
      · rw [u3 j e2, dec_zero14]; simp
    · rw [decide_eq_false e]
      exact allB_not (j := k) (by omega) (by rw [v3, s3, hS, if_neg e])
  have b4 : allB l4 = true := allB_of n4 fun j hj => by
    by_cases e2 : j = k
    · rw [e2, v4, dec_enc hm]; simp
    · rw [u4 j e2, dec_zero14]; simp
  obtain ⟨R3, hR3⟩ : ∃ R3, R3 = (if allB l3 then allV l3 else zeros 32) := ⟨_, rfl⟩
  have r3 : R3.length = 32 := by rw [hR3]; split; simp [allV, n3]; rfl
  obtain ⟨R4, hR4⟩ : ∃ R4, R4 = allV l4 := ⟨_, rfl⟩
  have r4 : R4.length = 32 := by rw [hR4]; simp [allV, n4]
  have r4k : nth R4 (1 + k) = m := by
    rw [hR4, nth_eq _ _ (by simp [allV, n4]; omega)]
    simp only [allV, Nat.add_comm 1 k, List.getElem_cons_succ, List.getElem_map]
    rw [← nth_eq l4 k (by omega), v4, dec_enc hm]
  have hu : ∀ As w', Env w As w' → Below w.heap.size w w' := fun _ _ h => h.below
  have HU := Lib.hid hu
  have K := Lib.hid fun w' (h : Tz w') => known14_calls w' h
  clear hu
  generalize w.heap.size + 2 = fb at N1
  generalize w.heap.size + 1 = bb at N1
  generalize w.heap.size = d at N1 HU ⊢
  have wk : -9223372036854775808 ≤ 1 + (k : Int) ∧ 1 + (k : Int) ≤ 9223372036854775807 := by omega
  have wo : -9223372036854775808 ≤ 1 + (o : Int) ∧ 1 + (o : Int) ≤ 9223372036854775807 := by omega
  have A1 := Lib.hid fun w1 (h : Env w [fileA fb bb d l0 0 0] w1) => E_fwrite h hT 0 rfl (1 + (k : Int)) n wk hn
  have A2 := Lib.hid fun w1 (h : Env w [fileA fb bb d l1 0 0] w1) => E_fflip h hT 0 rfl (((39 * k + x : Nat) : Int))
  have A3 := Lib.hid fun w1 (h : Env w [fileA fb bb d l2 0 0] w1) => E_fflip h hT 0 rfl (((39 * k + y : Nat) : Int))
  have A4 := Lib.hid fun w1 (h : Env w [fileA fb bb d l3 0 0] w1) => E_fread h hT 0 rfl (1 + (k : Int)) wk (by decide)
  have A5 := Lib.hid fun w1 (h : Env w [fileA fb bb d l3 0 0] w1) => E_fall h hT 0 rfl n3
  have A6 := Lib.hid fun w1 (h : Env w [fileA fb bb d l3 0 0] w1) => E_fread h hT 0 rfl (1 + (o : Int)) wo (by decide)
  have A7 := Lib.hid fun w1 (h : Env w [fileA fb bb d l3 0 0] w1) => E_fwrite h hT 0 rfl (1 + (k : Int)) m wk hm
  have A8 := Lib.hid fun w1 (h : Env w [fileA fb bb d l4 0 0] w1) => E_fread h hT 0 rfl (1 + (k : Int)) wk (by decide)
  have A9 := Lib.hid fun w1 (h : Env w [fileA fb bb d l4 0 0] w1) => E_fall h hT 0 rfl n4
  simp only [List.set_cons_zero] at A1 A2 A3 A4 A6 A7 A8
  rw [wr_nat (by omega), ← hl1] at A1
  obtain ⟨p1, p2⟩ := flip_nat (l := l1) (c := 39 * k + x) (k := k) (by omega) rfl hx
  rw [p1, p2, v1, ← hl2, show (((39 * k + x : Nat) : Int)) = 39 * (k : Int) + (x : Int) by omega] at A2
  obtain ⟨p1, p2⟩ := flip_nat (l := l2) (c := 39 * k + y) (k := k) (by omega) rfl hy
  rw [p1, p2, v2, ← hW, ← hl3, show (((39 * k + y : Nat) : Int)) = 39 * (k : Int) + (y : Int) by omega] at A3
  obtain ⟨p1, p2, p3⟩ := rd_same (l := l3) (k := k) (by omega) (by rw [v3, s3]; exact S1)
  obtain ⟨V, hV⟩ : ∃ V, V = (dec W).1 := ⟨_, rfl⟩
  rw [p1, p2, p3, v3, s3, ← hV] at A4
  rw [← hR3, b3] at A5
  obtain ⟨p1, p2, p3⟩ := rd_same (l := l3) (k := o) (by omega) (by rw [u3 o hok, dec_zero14]; simp)
  rw [p1, p2, p3, u3 o hok, dec_zero14] at A6
  rw [wr_nat (by omega), ← hl4] at A7
  obtain ⟨p1, p2, p3⟩ := rd_same (l := l4) (k := k) (by omega) (by rw [v4, dec_enc hm]; simp)
  rw [p1, p2, p3, v4, dec_enc hm] at A8
  rw [if_pos b4, b4, ← hR4] at A9
  have q3 : (nums .u32 R3).size = 32 := by rw [nums_size]; exact r3
  have q4 : (nums .u32 R4).size = 32 := by rw [nums_size]; exact r4
  have R4K := Lib.hid (show (nums .u32 R4)[1 + k]? = some (.int .u32 (m : Int)) by rw [← r4k]; exact nums_nth .u32 R4 (1 + k) (by omega))
  have sb : ((S : Int) == 2) = !B := by rw [hS, hB]; by_cases e : x = y <;> simp [e]
  have xb : ((x : Int) == (y : Int)) = B := by rw [hB, Bool.eq_iff_iff]; simp only [beq_iff_eq, decide_eq_true_eq]; omega
  have xb' : ((x : Int) != (y : Int)) = !B := by rw [bne, xb]
  have XB := Lib.hid xb
  have XB' := Lib.hid xb'
  have SB := Lib.hid sb
  have ek : 1 + (k : Int) - 1 = (k : Int) := by omega
  clear hl1 hl2 hl3 hl4 hW hS hB hR3 hR4 hV v1 v2 v3 v4 u3 u4 z0 n0 n1 n2 n3 n4 s3 S1 b3 b4 r3 r4 r4k p1 p2 p3 wk wo xb xb' sb
  go_enter Tryd.func14, Tryd.ntmps14
  go_wp2_with (fail)
  refine N1.out.mono ?_
  rintro e w' ⟨rfl, H'⟩
  replace H := Lib.hid H'
  clear H'
  go_wp2_with (fail)
  (with_reducible refine (A1.out _ H.out).mono ?_)
  rintro e w' ⟨rfl, H', u⟩
  replace H := Lib.hid H'
  clear H' u
  go_wp2_with (fail)
  (with_reducible refine (A2.out _ H.out).mono ?_)
  rintro e w' ⟨rfl, H', u⟩
  replace H := Lib.hid H'
  clear H' u
  go_wp2_with (fail)
  (with_reducible refine (A3.out _ H.out).mono ?_)
  rintro e w' ⟨rfl, H', u⟩
  replace H := Lib.hid H'
  clear H' u
  go_wp2_with (fail)
  (with_reducible refine (A4.out _ H.out).mono ?_)
  rintro e w' ⟨rfl, H', u⟩
  replace H := Lib.hid H'
  clear H' u
  go_wp2_with (fail)
  (with_reducible refine (A5.out _ H.out).mono ?_)
  rintro e w' ⟨rfl, H', u⟩
  replace H := Lib.hid H'
  clear H' u
  go_wp2_with (first
    | go_skip
    | (refine L_store_new 57 (.tmp 17) (.tmp 69) rfl (by kernel_rfl) _ (nums .u32 R3) rfl rfl 32 info_r32 rfl q3 (nums_one _ _) ?_))
  replace H := Lib.hid (H.out.near ((Upd.refl _ _).alloc (.cells (nums .u32 R3) 57)))
  generalize w'.alloc (.cells (nums .u32 R3) 57) = w2 at H ⊢
  (with_reducible refine (A6.out _ H.out).mono ?_)
  rintro e w' ⟨rfl, H', u⟩
  replace H := Lib.hid H'
  clear H' u
  go_wp2_with (fail)
  (with_reducible refine (A7.out _ H.out).mono ?_)
  rintro e w' ⟨rfl, H', u⟩
  replace H := Lib.hid H'
  clear H' u
  go_wp2_with (fail)
  (with_reducible refine (A8.out _ H.out).mono ?_)
  rintro e w' ⟨rfl, H', u⟩
  replace H := Lib.hid H'
  clear H' u
  go_wp2_with (fail)
  (with_reducible refine (A9.out _ H.out).mono ?_)
  rintro e w' ⟨rfl, H', u⟩
  replace H := Lib.hid H'
  clear H' u
  have xb := XB.out
  have xb' := XB'.out
  have sb := SB.out
  have ix : ((1 : Int) + (k : Int)).toNat = 1 + k := by omega
  have r4 := R4K.out
  have cq : (w'.alloc (.cells (nums .u32 R4) 57)).cell? ⟨w'.heap.size, 1 + k, none⟩ = some (.int .u32 (m : Int)) := by rw [cells_of (Go.heap_alloc_last w' _)]; exact R4K.out
  go_wp2_with (first
    | go_skip
    | (refine L_store_new 57 (.tmp 23) (.tmp 92) rfl (by kernel_rfl) _ (nums .u32 R4) rfl rfl 32 info_r32 rfl q4 (nums_one _ _) ?_))
  have H2 := Lib.hid (H.out.near ((Upd.refl _ _).alloc (.cells (nums .u32 R4) 57)))
  refine (K.out _ H2.out.tz).mono ?_
  rintro e w3 ⟨rfl, hb3⟩
  go_wp2_with (fail)
  go_ret
  exact ⟨rfl, HU.out _ _ (H2.out.near (Upd.of_below hb3))⟩
end Go.Proofs.YtjnjpnnogdldaaaDoor
