/- Law 3: WordPeeks. -/
import Derived.Test.YtggpkldingfinaaDoorL3a
namespace Go.Proofs.YtggpkldingfinaaDoor
open Go.RowKit Go.Dio

theorem peek_at {l : List Nat} {k : Nat} (h : k < l.length) : peekL l (k : Int) = dec (nth l k) := by
  rw [peekL, inn_of (by omega) (by omega)]; rfl
theorem put_at {l : List Nat} {k v : Nat} (h : k < l.length) : putL l (k : Int) v = l.set k (enc v) := by
  rw [putL, inn_of (by omega) (by omega)]; rfl
theorem flip_at {l : List Nat} {c k m : Nat} (h : k < l.length) (hc : c = 39 * k + m) (hm : m < 39) : flipB l (c : Int) = true ∧ flipL l (c : Int) = l.set k (nth l k ^^^ 2 ^ m) := by
  have hb : flipB l (c : Int) = true := decide_eq_true (by omega)
  have e1 : c / 39 = k := by omega
  have e2 : c % 39 = m := by omega
  refine ⟨hb, ?_⟩
  rw [flipL, hb, if_pos rfl, Int.toNat_natCast, e1, e2]
theorem get_same {l : List Nat} {i : Int} (h : (peekL l i).2 ≠ 1) : getL l i = l ∧ getF l i = 0 := getL_other h
theorem dec_zero : dec 0 = (0, 0) := by decide +kernel

set_option maxHeartbeats 2000000 in
theorem peeks_walk (n m : Nat) (a b : Int) (w : World) (hn : n < 2 ^ 32) (hm : m < 2 ^ 32) (hT : Tz w) : Calls Tryd.prog 8 #[.int .u32 (n : Int), .int .u32 (m : Int), .int .i64 a, .int .i64 b] w fun e w' => e = .returned (.bool true) ∧ Below w.heap.size w w' := by
  obtain ⟨a', ha1, ha⟩ := andi63 a
  obtain ⟨b', hb1, hb⟩ := andi63 b
  obtain ⟨i, hi0⟩ : ∃ i, i = a' % 39 := ⟨_, rfl⟩
  obtain ⟨k, hk0⟩ : ∃ k, k = b' % 39 := ⟨_, rfl⟩
  have hi : i < 39 := by omega
  have hk : k < 39 := by omega
  have hia : (a' : Int) % 39 = (i : Int) := by omega
  have hkb : (b' : Int) % 39 = (k : Int) := by omega
  clear hi0 hk0
  have N3 := Lib.hid (O_new 3 3 w hT (by decide))
  have hu : ∀ b d l f w', Own w b d l f w' → Below w.heap.size w w' := fun _ _ _ _ _ h => h.upd.below
  have HU := Lib.hid hu
  have K := Lib.hid fun w' (h : Tz w') => known3_calls w' h
  obtain ⟨l0, hl0⟩ : ∃ l0, l0 = List.replicate 3 0 := ⟨_, rfl⟩
  have n0 : l0.length = 3 := by subst hl0; rfl
  have z0 : nth l0 0 = 0 := by subst hl0; rfl
  rw [← hl0] at N3
  clear hu hl0
  generalize w.heap.size + 1 = B at N3
  generalize w.heap.size = D at N3 HU ⊢
  have A3 := Lib.hid fun w1 (h : Own w B D l0 0 w1) => O_put h 1 n hn
  have p1 : putL l0 1 n = l0.set 1 (enc n) := put_at (k := 1) (by omega)
  have i1 : inn l0 1 = true := inn_of (by omega) (by omega)
  rw [i1, p1] at A3
  obtain ⟨l1, hl1⟩ : ∃ l1, l1 = l0.set 1 (enc n) := ⟨_, rfl⟩
  have n1 : l1.length = 3 := by rw [hl1]; simpa using n0
  have v1 : nth l1 1 = enc n := by rw [hl1]; exact nth_set_eq (by omega)
  have y1 : nth l1 0 = 0 := by rw [hl1, nth_set_ne (by omega), z0]
  rw [← hl1] at A3
  have A4 := Lib.hid fun w1 (h : Own w B D l1 0 w1) => O_flip h (39 + (i : Int))
  have c4 : (39 + (i : Int)) = ((39 * 1 + i : Nat) : Int) := by omega
  obtain ⟨q1, q2⟩ := flip_at (l := l1) (c := 39 * 1 + i) (k := 1) (m := i) (by omega) rfl hi
  rw [← c4] at q1 q2
  rw [q1, q2, v1] at A4
  obtain ⟨l2, hl2⟩ : ∃ l2, l2 = l1.set 1 (enc n ^^^ 2 ^ i) := ⟨_, rfl⟩
  have n2 : l2.length = 3 := by rw [hl2]; simpa using n1
  have v2 : nth l2 1 = enc n ^^^ 2 ^ i := by rw [hl2]; exact nth_set_eq (by omega)
  have y2 : nth l2 0 = 0 := by rw [hl2, nth_set_ne (by omega), y1]
  rw [← hl2] at A4
  have A5 := Lib.hid fun w1 (h : Own w B D l2 0 w1) => O_flip h (39 + (k : Int))
  have c5 : (39 + (k : Int)) = ((39 * 1 + k : Nat) : Int) := by omega
  obtain ⟨r1, r2⟩ := flip_at (l := l2) (c := 39 * 1 + k) (k := 1) (m := k) (by omega) rfl hk
  rw [← c5] at r1 r2
  rw [r1, r2, v2] at A5
  obtain ⟨l3, hl3⟩ : ∃ l3, l3 = l2.set 1 (enc n ^^^ 2 ^ i ^^^ 2 ^ k) := ⟨_, rfl⟩
  have n3 : l3.length = 3 := by rw [hl3]; simpa using n2
  have v3 : nth l3 1 = enc n ^^^ 2 ^ i ^^^ 2 ^ k := by rw [hl3]; exact nth_set_eq (by omega)
  have y3 : nth l3 0 = 0 := by rw [hl3, nth_set_ne (by omega), y2]
  rw [← hl3] at A5
  have A6 := Lib.hid fun w1 (h : Own w B D l3 0 w1) => O_peek h 1
  have A7 := Lib.hid fun w1 (h : Own w B D l3 0 w1) => O_fixes h
  have A8 := Lib.hid fun w1 (h : Own w B D l3 0 w1) => O_peek h 0
  have e6 : peekL l3 1 = dec (enc n ^^^ 2 ^ i ^^^ 2 ^ k) := by rw [← v3]; exact peek_at (k := 1) (by omega)
  have e8 : peekL l3 0 = (0, 0) := by rw [← dec_zero, ← y3]; exact peek_at (k := 0) (by omega)
  have d6 : (dec (enc n ^^^ 2 ^ i ^^^ 2 ^ k)).2 = if i = k then 0 else 2 := mend_two_st hn hi hk
  obtain ⟨u, st, hus⟩ : ∃ u st, dec (enc n ^^^ 2 ^ i ^^^ 2 ^ k) = (u, st) := ⟨_, _, rfl⟩
  rw [e6, hus] at A6
  rw [e8] at A8
  rw [hus] at d6
  have A9 := Lib.hid fun w1 (h : Own w B D l3 0 w1) => O_put h 1 m hm
  have p9 : putL l3 1 m = l3.set 1 (enc m) := put_at (k := 1) (by omega)
  have i9 : inn l3 1 = true := inn_of (by omega) (by omega)
  rw [i9, p9] at A9
  obtain ⟨l4, hl4⟩ : ∃ l4, l4 = l3.set 1 (enc m) := ⟨_, rfl⟩
  have n4 : l4.length = 3 := by rw [hl4]; simpa using n3
  have v4 : nth l4 1 = enc m := by rw [hl4]; exact nth_set_eq (by omega)
  rw [← hl4] at A9
  have A10 := Lib.hid fun w1 (h : Own w B D l4 0 w1) => O_get h 1 (by decide)
  have e10 : peekL l4 1 = (m, 0) := by rw [← dec_enc hm, ← v4]; exact peek_at (k := 1) (by omega)
  have g10 := get_same (l := l4) (i := 1) (by rw [e10]; exact Nat.zero_ne_one)
  rw [e10, g10.1, g10.2] at A10
  have A11 := Lib.hid fun w1 (h : Own w B D l4 0 w1) => O_fixes h
  clear n0 z0 p1 i1 hl1 n1 v1 y1 c4 q1 q2 hl2 n2 v2 y2 c5 r1 r2 hl3 n3 v3 y3 e6 e8 hus p9 i9 hl4 n4 v4 e10 g10
  simp only at d6
  have hcase : (st = 0 ∧ ((39 + (i : Int)) == (39 + (k : Int))) = true) ∨ (st = 2 ∧ ((39 + (i : Int)) == (39 + (k : Int))) = false) := by
    by_cases e : i = k
    · left; subst e; simpa using d6
    · right; rw [if_neg e] at d6; refine ⟨d6, ?_⟩; rw [beq_eq_false_iff_ne]; omega
  clear d6
  rcases hcase with ⟨rfl, hc⟩ | ⟨rfl, hc⟩
  all_goals
    go_enter Tryd.func8, Tryd.ntmps8
    go_wp2_with (fail)
    refine N3.out.mono ?_
    rintro e w' ⟨rfl, H⟩
    replace H := Lib.hid H
    go_wp2_with (fail)
    refine (A3.out _ H.out).mono ?_
    rintro e w' ⟨rfl, H'⟩
    replace H := Lib.hid H'
    clear H'
    go_wp2_with (fail)
    refine (A4.out _ H.out).mono ?_
    rintro e w' ⟨rfl, H'⟩
    replace H := Lib.hid H'
    clear H'
    go_wp2_with (fail)
    refine (A5.out _ H.out).mono ?_
    rintro e w' ⟨rfl, H'⟩
    replace H := Lib.hid H'
    clear H'
    go_wp2_with (fail)
    go_loopw [13] (fun v13 wl => ∃ j : Nat, v13 = .int .i64 (j : Int) ∧ j ≤ 3 ∧ Hid (Own w B D l3 0 wl)) (fun v13 _ => 3 - (intOf v13).toNat)
    case atStart => exact ⟨0, rfl, by omega, H.out⟩
    case round =>
      clear H
      obtain ⟨j, rfl, hj, H⟩ := hrel
      rcases Nat.lt_or_ge j 3 with hj3 | hj3
      · go_wp2_with (fail)
        refine (A6.out _ H.out).mono ?_
        rintro e w' ⟨rfl, H'⟩
        replace H := Lib.hid H'
        clear H'
        go_wp2_with (fail)
        refine (A7.out _ H.out).mono ?_
        rintro e w' ⟨rfl, H'⟩
        replace H := Lib.hid H'
        clear H'
        go_wp2_with (fail)
        go_roundw
        case rel => exact ⟨j + 1, by go_num, by omega, H.out⟩
        case measure => simp [intOf]; omega
      · obtain rfl : j = 3 := by omega
        go_wp2_with (fail)
        refine (A8.out _ H.out).mono ?_
        rintro e w' ⟨rfl, H'⟩
        replace H := Lib.hid H'
        clear H'
        go_wp2_with (fail)
        refine (A9.out _ H.out).mono ?_
        rintro e w' ⟨rfl, H'⟩
        replace H := Lib.hid H'
        clear H'
        go_wp2_with (fail)
        refine (A10.out _ H.out).mono ?_
        rintro e w' ⟨rfl, H'⟩
        replace H := Lib.hid H'
        clear H'
        go_wp2_with (fail)
        refine (A11.out _ H.out).mono ?_
        rintro e w' ⟨rfl, H'⟩
        replace H := Lib.hid H'
        clear H'
        go_wp2_with (fail)
        refine (K.out _ H.out.inn).mono ?_
        rintro e w'' ⟨rfl, hb⟩
        go_wp2_with (fail)
        go_ret
        exact ⟨rfl, HU.out _ _ _ _ _ (H.out.near (Upd.of_below hb))⟩
end Go.Proofs.YtggpkldingfinaaDoor
