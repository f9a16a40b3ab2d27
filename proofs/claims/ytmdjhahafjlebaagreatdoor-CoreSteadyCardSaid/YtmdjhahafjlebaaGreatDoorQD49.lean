/- Tapes: words, single instructions. -/
import Derived.Test.YtmdjhahafjlebaaGreatDoorQD13
namespace Go.Proofs.YtmdjhahafjlebaaGreatDoor
open Go.RowKit Go.Dio
set_option linter.unusedSimpArgs false
set_option linter.unusedVariables false

theorem nthB {l : List Nat} {B : Nat} (h : ∀ x ∈ l, x < B) (hB : 0 < B) (k : Nat) : nth l k < B := by
  by_cases hk : k < l.length
  · rw [nth_eq l k hk]; exact h _ (List.getElem_mem hk)
  · rw [show nth l k = 0 by simp [nth, show l.length ≤ k by omega]]; exact hB
set_option maxHeartbeats 2000000 in
theorem Word_calls (tb : Nat) (A : Option Addr) (L : List Int) (c at' : Nat) (w : World) (T : TapeAt tb A L c at' w) :
    Calls Tryz.prog 28 #[.pointer (some ⟨tb, 0, none⟩)] w fun e w' => ∃ (n a2 : Nat), n < 2 ^ 32 ∧ e = .returned (.int .u32 (n : Int)) ∧ TapeAt tb A L c a2 w' ∧ Upd [tb] w w' := by
  go_enter Tryz.func28, Tryz.ntmps28
  go_wp2_with (fail)
  refine (Next_calls _ _ _ _ _ 5 _ T (by decide) (by decide)).mono ?_
  rintro e w1 ⟨r1, a1, hr1, rfl, T1, U1⟩
  have X1 := Lib.hid T1
  have V1 := Lib.hid U1
  clear T1 U1
  by_cases h0 : r1 = 0
  · subst h0
    go_wp2_with (fail)
    refine (Next_calls _ _ _ _ _ 1073741824 _ X1.out (by decide) (by decide)).mono ?_
    rintro e w2 ⟨r2, a2, hr2, rfl, T2, U2⟩
    have p1 : IntKind.u32.wrap (r2 : Int) = (r2 : Int) := wrap32 (by omega) (by omega)
    have p2 : IntKind.u32.wrap ((r2 : Int) * 4) = ((r2 * 4 : Nat) : Int) := ev_shl r2 4 (by omega)
    have X2 := Lib.hid T2
    have V2 := Lib.hid (V1.out.trans U2)
    clear T2 U2
    go_wp2_with (fail)
    refine (Next_calls _ _ _ _ _ 4 _ X2.out (by decide) (by decide)).mono ?_
    rintro e w3 ⟨r3, a3, hr3, rfl, T3, U3⟩
    have p3 : IntKind.u32.wrap (r3 : Int) = (r3 : Int) := wrap32 (by omega) (by omega)
    have p4 : bits .or .u32 ((r2 : Int) * 4) (r3 : Int) = ((r2 * 4 ||| r3 : Nat) : Int) := by have := or32 (r2 * 4) r3 (by omega) (by omega); push_cast at this; exact this
    have h4 := or_lt (r2 * 4) r3 (by omega) (by omega)
    generalize r2 * 4 ||| r3 = n at p4 h4
    clear p2
    go_wp2_with (fail)
    go_ret
    exact ⟨n, a3, h4, rfl, T3, V2.out.trans U3⟩
  have d0 : ((r1 : Int) == 0) = false := (cast_ne_b h0).1
  by_cases h1 : r1 = 1
  · subst h1
    go_wp2_with (fail)
    have K := Lib.hid (hl1 w1 (.cells (nums .u32 [0, 1, 4294967295, 2147483648, 2147483647, 2147483649, 255, 65536]) 36))
    have X2 := Lib.hid (X1.out.upd ((Upd.refl [] w1).alloc (.cells (nums .u32 [0, 1, 4294967295, 2147483648, 2147483647, 2147483649, 255, 65536]) 36)) (fun g hg => by simp at hg))
    have V2 := Lib.hid (V1.out.alloc (.cells (nums .u32 [0, 1, 4294967295, 2147483648, 2147483647, 2147483649, 255, 65536]) 36))
    have hne := X1.out.tb_lt
    refine (Next_calls _ _ _ _ _ 8 _ X2.out (by decide) (by decide)).mono ?_
    rintro e w3 ⟨r3, a3, hr3, rfl, T3, U3⟩
    have hc : w3.cell? ⟨w1.heap.size, r3, none⟩ = some (.int .u32 ((nth [0, 1, 4294967295, 2147483648, 2147483647, 2147483649, 255, 65536] r3 : Nat) : Int)) := by
      rw [cells_of (U3.keep K.out (by simp; omega))]
      exact nums_nth .u32 [0, 1, 4294967295, 2147483648, 2147483647, 2147483649, 255, 65536] r3 hr3
    have hl : nth [0, 1, 4294967295, 2147483648, 2147483647, 2147483649, 255, 65536] r3 < 2 ^ 32 := nthB (by decide) (by decide) r3
    generalize nth [0, 1, 4294967295, 2147483648, 2147483647, 2147483649, 255, 65536] r3 = n at hc hl
    have b1 : decide ((r3 : Int) < 8) = true := decide_eq_true (by omega)
    go_wp2_with (fail)
    go_ret
    exact ⟨n, a3, hl, rfl, T3, V2.out.trans U3⟩
  have d1 : ((r1 : Int) == 1) = false := (cast_ne_b h1).1
  clear h0 h1
  go_wp2_with (fail)
  refine (Next_calls _ _ _ _ _ 40 _ X1.out (by decide) (by decide)).mono ?_
  rintro e w2 ⟨r2, a2, hr2, rfl, T2, U2⟩
  have p1 : IntKind.u32.wrap (r2 : Int) = (r2 : Int) := wrap32 (by omega) (by omega)
  have p2 : ((r2 : Int) - 10) % 4294967296 = ((u32 ((r2 : Int) - 10) : Nat) : Int) := by rw [← wrap_u32, IntKind.wrap_u32]
  have p4 := wrap_u32 ((r2 : Int) - 10)
  have p3 := u32_lt ((r2 : Int) - 10)
  generalize u32 ((r2 : Int) - 10) = n at p2 p3 p4
  go_wp2_with (fail)
  go_ret
  exact ⟨n, a2, p3, rfl, T2, V1.out.trans U2⟩
end Go.Proofs.YtmdjhahafjlebaaGreatDoor

namespace Go.Proofs.YtmdjhahafjlebaaGreatDoor
open Go.RowKit Go.Dio
set_option linter.unusedSimpArgs false
set_option linter.unusedVariables false

set_option maxHeartbeats 2000000 in
theorem reckon_calls (tb : Nat) (A : Option Addr) (L : List Int) (c at' : Nat) (w : World) (T : TapeAt tb A L c at' w) :
    Calls Tryz.prog 101 #[.pointer (some ⟨tb, 0, none⟩)] w fun e w' => ∃ (n a2 : Nat), n < 2 ^ 32 ∧ e = .returned (.int .u32 (n : Int)) ∧ TapeAt tb A L c a2 w' ∧ Upd [tb] w w' := by
  have TX := Lib.hid T
  have VX := Lib.hid (Upd.refl [tb] w)
  clear T
  go_enter Tryz.func101, Tryz.ntmps101
  go_wp2_with (fail)
  refine (Next_calls _ _ _ _ _ 9 _ TX.out (by decide) (by decide)).mono ?_
  rintro e w1 ⟨r1, a1, hr1, rfl, T1, U1⟩
  have V1 := Lib.hid (VX.out.trans U1)
  clear TX VX U1
  have TX := Lib.hid T1
  have VX := V1
  clear T1 V1
  go_wp2_with (fail)
  refine (Next_calls _ _ _ _ _ 10 _ TX.out (by decide) (by decide)).mono ?_
  rintro e w2 ⟨r2, a2, hr2, rfl, T2, U2⟩
  have V2 := Lib.hid (VX.out.trans U2)
  clear TX VX U2
  have TX := Lib.hid T2
  have VX := V2
  clear T2 V2
  go_wp2_with (fail)
  refine (Next_calls _ _ _ _ _ 10 _ TX.out (by decide) (by decide)).mono ?_
  rintro e w3 ⟨r3, a3, hr3, rfl, T3, U3⟩
  have V3 := Lib.hid (VX.out.trans U3)
  clear TX VX U3
  have TX := Lib.hid T3
  have VX := V3
  clear T3 V3
  go_wp2_with (fail)
  refine (Next_calls _ _ _ _ _ 3 _ TX.out (by decide) (by decide)).mono ?_
  rintro e w4 ⟨r4, a4, hr4, rfl, T4, U4⟩
  have V4 := Lib.hid (VX.out.trans U4)
  clear TX VX U4
  have TX := Lib.hid T4
  have VX := V4
  clear T4 V4
  by_cases h0 : r4 = 0
  · subst h0
    go_wp2_with (fail)
    refine (Next_calls _ _ _ _ _ 9 _ TX.out (by decide) (by decide)).mono ?_
    rintro e w5 ⟨r5, a5, hr5, rfl, T5, U5⟩
    have V5 := Lib.hid (VX.out.trans U5)
    clear TX VX U5
    have TX := Lib.hid T5
    have VX := V5
    clear T5 V5
    go_wp2_with (fail)
    refine (Next_calls _ _ _ _ _ 4096 _ TX.out (by decide) (by decide)).mono ?_
    rintro e w6 ⟨r6, a6, hr6, rfl, T6, U6⟩
    have V6 := Lib.hid (VX.out.trans U6)
    clear TX VX U6
    have TX := Lib.hid T6
    have VX := V6
    clear T6 V6
    by_cases h25 : 25 ≤ 19 + r5
    · go_wp2_with (fail)
      refine (word_calls (19 + r5) (1 + r1) r2 0 _ _ (by omega) (by omega) (by omega) (by omega) (by decide)).mono ?_
      rintro e w7 ⟨rfl, u7⟩
      go_wp2_with (fail)
      go_ret
      exact ⟨_, a6, wordP_lt _ _ _ _ _ (by omega) (by omega) (by omega) (by omega) (by decide), rfl, TX.out.upd u7 (fun g hg => by simp at hg), VX.out.trans (u7.mono (by simp))⟩
    · go_wp2_with (fail)
      refine (word_calls (19 + r5) (1 + r1) r2 0 _ _ (by omega) (by omega) (by omega) (by omega) (by decide)).mono ?_
      rintro e w7 ⟨rfl, u7⟩
      go_wp2_with (fail)
      go_ret
      exact ⟨_, a6, wordP_lt _ _ _ _ _ (by omega) (by omega) (by omega) (by omega) (by decide), rfl, TX.out.upd u7 (fun g hg => by simp at hg), VX.out.trans (u7.mono (by simp))⟩
  · have d0 : ((r4 : Int) == 0) = false := (cast_ne_b h0).1
    clear h0
    go_wp2_with (fail)
    refine (Next_calls _ _ _ _ _ 18 _ TX.out (by decide) (by decide)).mono ?_
    rintro e w5 ⟨r5, a5, hr5, rfl, T5, U5⟩
    have V5 := Lib.hid (VX.out.trans U5)
    clear TX VX U5
    have TX := Lib.hid T5
    have VX := V5
    clear T5 V5
    go_wp2_with (fail)
    refine (word_calls (28 + r5) (1 + r1) r2 r3 _ _ (by omega) (by omega) (by omega) (by omega) (by omega)).mono ?_
    rintro e w7 ⟨rfl, u7⟩
    go_wp2_with (fail)
    go_ret
    exact ⟨_, a5, wordP_lt _ _ _ _ _ (by omega) (by omega) (by omega) (by omega) (by omega), rfl, TX.out.upd u7 (fun g hg => by simp at hg), VX.out.trans (u7.mono (by simp))⟩

set_option maxHeartbeats 2000000 in
theorem kcsr_calls (tb : Nat) (A : Option Addr) (L : List Int) (c at' : Nat) (w : World) (T : TapeAt tb A L c at' w) :
    Calls Tryz.prog 103 #[.pointer (some ⟨tb, 0, none⟩)] w fun e w' => ∃ (n a2 : Nat), n < 2 ^ 32 ∧ e = .returned (.int .u32 (n : Int)) ∧ TapeAt tb A L c a2 w' ∧ Upd [tb] w w' := by
  have TX := Lib.hid T
  have VX := Lib.hid (Upd.refl [tb] w)
  clear T
  go_enter Tryz.func103, Tryz.ntmps103
  go_wp2_with (fail)
  refine (Next_calls _ _ _ _ _ 6 _ TX.out (by decide) (by decide)).mono ?_
  rintro e w1 ⟨r1, a1, hr1, rfl, T1, U1⟩
  have V1 := Lib.hid (VX.out.trans U1)
  clear TX VX U1
  have TX := Lib.hid T1
  have VX := V1
  clear T1 V1
  go_wp2_with (fail)
  refine (Next_calls _ _ _ _ _ 10 _ TX.out (by decide) (by decide)).mono ?_
  rintro e w2 ⟨r2, a2, hr2, rfl, T2, U2⟩
  have V2 := Lib.hid (VX.out.trans U2)
  clear TX VX U2
  have TX := Lib.hid T2
  have VX := V2
  clear T2 V2
  go_wp2_with (fail)
  refine (Next_calls _ _ _ _ _ 10 _ TX.out (by decide) (by decide)).mono ?_
  rintro e w3 ⟨r3, a3, hr3, rfl, T3, U3⟩
  have V3 := Lib.hid (VX.out.trans U3)
  clear TX VX U3
  have TX := Lib.hid T3
  have VX := V3
  clear T3 V3
  go_wp2_with (fail)
  have K := Lib.hid (hl1 w3 (.cells (nums .i32 [832, 832, 833, 834, 835]) 21))
  have TY := Lib.hid (TX.out.upd ((Upd.refl [] w3).alloc (.cells (nums .i32 [832, 832, 833, 834, 835]) 21)) (fun g hg => by simp at hg))
  have VY := Lib.hid (VX.out.alloc (.cells (nums .i32 [832, 832, 833, 834, 835]) 21))
  have hne := TX.out.tb_lt
  clear TX VX
  refine (Next_calls _ _ _ _ _ 5 _ TY.out (by decide) (by decide)).mono ?_
  rintro e w4 ⟨r4, a4, hr4, rfl, T4, U4⟩
  have hc := (cells_of (U4.keep K.out (by simp; omega)) r4).trans (nums_nth .i32 [832, 832, 833, 834, 835] r4 hr4)
  generalize nth [832, 832, 833, 834, 835] r4 = im at hc
  have b1 : decide ((r4 : Int) < 5) = true := decide_eq_true (by omega)
  go_wp2_with (fail)
  refine (word_calls (50 + r1) r2 r3 0 _ _ (by omega) (by omega) (by omega) (by omega) (by decide)).mono ?_
  rintro e w7 ⟨rfl, u7⟩
  go_wp2_with (fail)
  go_ret
  exact ⟨_, a4, wordP_lt _ _ _ _ _ (by omega) (by omega) (by omega) (by omega) (by decide), rfl, T4.upd u7 (fun g hg => by simp at hg), (VY.out.trans U4).trans (u7.mono (by simp))⟩
end Go.Proofs.YtmdjhahafjlebaaGreatDoor

namespace Go.Proofs.YtmdjhahafjlebaaGreatDoor
open Go.RowKit Go.Dio
set_option linter.unusedSimpArgs false
set_option linter.unusedVariables false

/-- What a piece tells: a row of the call's own, of no more than K words. -/
def SlR (tb : Nat) (A : Option Addr) (L : List Int) (c K : Nat) (w : World) (e : Ending) (w' : World) : Prop :=
  ∃ (B : Option Addr) (cap : Nat) (l : List Nat) (a2 : Nat), e = .returned (.slice B l.length cap) ∧ Ow w.heap.size w' (.slice B l.length cap) l ∧ (∀ x ∈ l, x < 2 ^ 32) ∧ l.length ≤ K ∧ TapeAt tb A L c a2 w' ∧ Upd [tb] w w'
set_option maxHeartbeats 4000000 in
theorem touch_calls (tb : Nat) (A : Option Addr) (L : List Int) (c at' : Nat) (w : World) (T : TapeAt tb A L c at' w) :
    Calls Tryz.prog 102 #[.pointer (some ⟨tb, 0, none⟩)] w fun e w' => SlR tb A L c 3 w e w' := by
  have htw := T.tb_lt
  have TX := Lib.hid T
  have VX := Lib.hid (Upd.refl [tb] w)
  clear T
  go_enter Tryz.func102, Tryz.ntmps102
  go_wp2_with (fail)
  refine (Next_calls _ _ _ _ _ 12 _ TX.out (by decide) (by decide)).mono ?_
  rintro e w1 ⟨r1, a1, hr1, rfl, T1, U1⟩
  have V1 := Lib.hid (VX.out.trans U1)
  clear TX VX U1
  have TX := Lib.hid T1
  have VX := V1
  clear T1 V1
  go_wp2_with (fail)
  have K := Lib.hid (hl1 w1 (.cells (nums .i64 [0, 0, 0, 1, 2, 3]) 3))
  have TY := Lib.hid (TX.out.upd ((Upd.refl [] w1).alloc (.cells (nums .i64 [0, 0, 0, 1, 2, 3]) 3)) (fun g hg => by simp at hg))
  have VY := Lib.hid (VX.out.alloc (.cells (nums .i64 [0, 0, 0, 1, 2, 3]) 3))
  have hne := TX.out.tb_lt
  clear TX VX
  refine (Next_calls _ _ _ _ _ 6 _ TY.out (by decide) (by decide)).mono ?_
  rintro e w2 ⟨r2, a2, hr2, rfl, T2, U2⟩
  have hc := (cells_of (U2.keep K.out (by simp; omega)) r2).trans (nums_nth .i64 [0, 0, 0, 1, 2, 3] r2 hr2)
  have hv : nth [0, 0, 0, 1, 2, 3] r2 < 4 := nthB (by decide) (by decide) r2
  generalize nth [0, 0, 0, 1, 2, 3] r2 = v at hc hv
  have b1 : decide ((r2 : Int) < 6) = true := decide_eq_true (by omega)
  have TX := Lib.hid T2
  have VX := Lib.hid (VY.out.trans U2)
  clear T2 U2 TY VY K hne
  go_wp2_with (fail)
  refine (Set_calls 30 (2048 + 4 * r1 + v) _ (by decide) (by omega)).mono ?_
  rintro e w3 ⟨B, cap, rfl, O3, u3⟩
  have OX := Lib.hid (O3.mono VX.out.size)
  have hS : ∀ x ∈ setL 30 (2048 + 4 * r1 + v), x < 2 ^ 32 := setL_lt _ _ (by decide)
  have hSl : (setL 30 (2048 + 4 * r1 + v)).length = 2 := rfl
  generalize setL 30 (2048 + 4 * r1 + v) = S at OX hS hSl
  have V3 := Lib.hid (VX.out.trans (u3.mono (by simp)))
  have T3 := Lib.hid (TX.out.upd u3 (fun g hg => by simp at hg))
  clear VX TX O3 u3 hc
  have VX := V3
  have TX := T3
  clear V3 T3
  go_wp2_with (fail)
  refine (Next_calls _ _ _ _ _ 2 _ TX.out (by decide) (by decide)).mono ?_
  rintro e w4 ⟨r4, a4, hr4, rfl, T4, U4⟩
  have V4 := Lib.hid (VX.out.trans U4)
  have O4 := Lib.hid (OX.out.upd U4 (fun g hg => by simp at hg; omega))
  clear TX VX U4 OX
  have TX := Lib.hid T4
  have VX := V4
  have OX := O4
  clear T4 V4 O4
  by_cases h0 : r4 = 0
  · subst h0
    go_wp2_with (fail)
    refine (Next_calls _ _ _ _ _ 5 _ TX.out (by decide) (by decide)).mono ?_
    rintro e w5 ⟨r5, a5, hr5, rfl, T5, U5⟩
    have V5 := Lib.hid (VX.out.trans U5)
    have O5 := Lib.hid (OX.out.upd U5 (fun g hg => by simp at hg; omega))
    clear TX VX U5 OX
    have TX := Lib.hid T5
    have VX := V5
    have OX := O5
    clear T5 V5 O5
    go_wp2_with (fail)
    refine (Next_calls _ _ _ _ _ 9 _ TX.out (by decide) (by decide)).mono ?_
    rintro e w6 ⟨r6, a6, hr6, rfl, T6, U6⟩
    have V6 := Lib.hid (VX.out.trans U6)
    have O6 := Lib.hid (OX.out.upd U6 (fun g hg => by simp at hg; omega))
    clear TX VX U6 OX
    have TX := Lib.hid T6
    have VX := V6
    have OX := O6
    clear T6 V6 O6
    go_wp2_with (fail)
    refine (Next_calls _ _ _ _ _ 3 _ TX.out (by decide) (by decide)).mono ?_
    rintro e w7 ⟨r7, a7, hr7, rfl, T7, U7⟩
    have V7 := Lib.hid (VX.out.trans U7)
    have O7 := Lib.hid (OX.out.upd U7 (fun g hg => by simp at hg; omega))
    clear TX VX U7 OX
    have TX := Lib.hid T7
    have VX := V7
    have OX := O7
    clear T7 V7 O7
    go_wp2_with (fail)
    refine (word_calls (11 + r5) (1 + r6) 30 0 _ _ (by omega) (by omega) (by omega) (by omega) (by omega)).mono ?_
    rintro e w8 ⟨rfl, u8⟩
    have hx : wordP (11 + r5) (1 + r6) 30 0 ((r7 : Int) * 4) < 2 ^ 32 := wordP_lt _ _ _ _ _ (by omega) (by omega) (by omega) (by omega) (by omega)
    generalize wordP (11 + r5) (1 + r6) 30 0 ((r7 : Int) * 4) = x at *
    have VA := Lib.hid ((VX.out.trans (u8.mono (T := [tb]) (by simp))).alloc (.cells (nums .u32 [x]) 36))
    have TA := Lib.hid ((TX.out.upd u8 (fun g hg => by simp at hg)).upd ((Upd.refl [] w8).alloc (.cells (nums .u32 [x]) 36)) (fun g hg => by simp at hg))
    have OA := Lib.hid ((OX.out.upd u8 (fun g hg => by simp at hg)).upd ((Upd.refl [] w8).alloc (.cells (nums .u32 [x]) 36)) (fun g hg => by simp at hg))
    go_wp2_with (at_builtin; refine L_app (.tmp 21) (.tmp 33) rfl (by kernel_rfl) w.heap.size _ S rfl OA.out _ _ _ [x] rfl rfl (numsAt_new w8 .u32 [x] 36) (by simp only [List.length_cons, List.length_nil]; omega) VA.out.size ?_)
    intro v' w9 O9 u9
    have U9 := VA.out.then u9 (fun g hg hlt => by have := OA.out.lt g hg; omega)
    have T9 := TA.out.upd u9 (fun g hg => by have := OA.out.lt g hg; omega)
    obtain ⟨B9, c9, rfl, hc91, hc92, hn9, hb9⟩ := O9.words
    go_wp2_with (fail)
    go_ret
    exact ⟨B9, c9, _, a7, rfl, O9, by
      intro x hx'
      rw [List.mem_append] at hx'
      rcases hx' with h | h
      · exact hS x h
      · rw [List.mem_singleton] at h; rw [h]; exact hx, by simp [hSl], T9, U9⟩
  · have d0 : ((r4 : Int) == 0) = false := (cast_ne_b h0).1
    clear h0
    go_wp2_with (fail)
    refine (Next_calls _ _ _ _ _ 3 _ TX.out (by decide) (by decide)).mono ?_
    rintro e w5 ⟨r5, a5, hr5, rfl, T5, U5⟩
    have V5 := Lib.hid (VX.out.trans U5)
    have O5 := Lib.hid (OX.out.upd U5 (fun g hg => by simp at hg; omega))
    clear TX VX U5 OX
    have TX := Lib.hid T5
    have VX := V5
    have OX := O5
    clear T5 V5 O5
    go_wp2_with (fail)
    refine (Next_calls _ _ _ _ _ 10 _ TX.out (by decide) (by decide)).mono ?_
    rintro e w6 ⟨r6, a6, hr6, rfl, T6, U6⟩
    have V6 := Lib.hid (VX.out.trans U6)
    have O6 := Lib.hid (OX.out.upd U6 (fun g hg => by simp at hg; omega))
    clear TX VX U6 OX
    have TX := Lib.hid T6
    have VX := V6
    have OX := O6
    clear T6 V6 O6
    go_wp2_with (fail)
    refine (Next_calls _ _ _ _ _ 3 _ TX.out (by decide) (by decide)).mono ?_
    rintro e w7 ⟨r7, a7, hr7, rfl, T7, U7⟩
    have V7 := Lib.hid (VX.out.trans U7)
    have O7 := Lib.hid (OX.out.upd U7 (fun g hg => by simp at hg; omega))
    clear TX VX U7 OX
    have TX := Lib.hid T7
    have VX := V7
    have OX := O7
    clear T7 V7 O7
    go_wp2_with (fail)
    refine (word_calls (16 + r5) 0 30 r6 _ _ (by omega) (by omega) (by omega) (by omega) (by omega)).mono ?_
    rintro e w8 ⟨rfl, u8⟩
    have hx : wordP (16 + r5) 0 30 r6 ((r7 : Int) * 4) < 2 ^ 32 := wordP_lt _ _ _ _ _ (by omega) (by omega) (by omega) (by omega) (by omega)
    generalize wordP (16 + r5) 0 30 r6 ((r7 : Int) * 4) = x at *
    have VA := Lib.hid ((VX.out.trans (u8.mono (T := [tb]) (by simp))).alloc (.cells (nums .u32 [x]) 36))
    have TA := Lib.hid ((TX.out.upd u8 (fun g hg => by simp at hg)).upd ((Upd.refl [] w8).alloc (.cells (nums .u32 [x]) 36)) (fun g hg => by simp at hg))
    have OA := Lib.hid ((OX.out.upd u8 (fun g hg => by simp at hg)).upd ((Upd.refl [] w8).alloc (.cells (nums .u32 [x]) 36)) (fun g hg => by simp at hg))
    go_wp2_with (at_builtin; refine L_app (.tmp 35) (.tmp 46) rfl (by kernel_rfl) w.heap.size _ S rfl OA.out _ _ _ [x] rfl rfl (numsAt_new w8 .u32 [x] 36) (by simp only [List.length_cons, List.length_nil]; omega) VA.out.size ?_)
    intro v' w9 O9 u9
    have U9 := VA.out.then u9 (fun g hg hlt => by have := OA.out.lt g hg; omega)
    have T9 := TA.out.upd u9 (fun g hg => by have := OA.out.lt g hg; omega)
    obtain ⟨B9, c9, rfl, hc91, hc92, hn9, hb9⟩ := O9.words
    go_wp2_with (fail)
    go_ret
    exact ⟨B9, c9, _, a7, rfl, O9, by
      intro x hx'
      rw [List.mem_append] at hx'
      rcases hx' with h | h
      · exact hS x h
      · rw [List.mem_singleton] at h; rw [h]; exact hx, by simp [hSl], T9, U9⟩
end Go.Proofs.YtmdjhahafjlebaaGreatDoor
