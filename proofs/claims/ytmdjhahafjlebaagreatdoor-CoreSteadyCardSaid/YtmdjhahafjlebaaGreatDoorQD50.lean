/- Tapes: pieces of programs, one within another. -/
import Derived.Test.YtmdjhahafjlebaaGreatDoorQD49
namespace Go.Proofs.YtmdjhahafjlebaaGreatDoor
open Go.RowKit Go.Dio
set_option linter.unusedSimpArgs false
set_option linter.unusedVariables false

/-- One number told makes one row of it. -/
theorem one_row {tb : Nat} {A : Option Addr} {L : List Int} {c K a2 n : Nat} {w w2 : World} (hn : n < 2 ^ 32) (hK : 1 ≤ K) (T : TapeAt tb A L c a2 w2) (U : Upd [tb] w w2) :
    SlR tb A L c K w (.returned (.slice (some ⟨w2.heap.size, 0, none⟩) 1 1)) (w2.alloc (.cells (nums .u32 [n]) 36)) :=
  ⟨some ⟨w2.heap.size, 0, none⟩, 1, [n], a2, rfl, Ow.lit w2 [n] w.heap.size U.size (show 1 ≤ 5000 by decide), by intro x hx; rw [List.mem_singleton] at hx; rw [hx]; exact hn, hK, T.upd ((Upd.refl [] w2).alloc _) (fun g hg => by simp at hg), U.alloc _⟩
theorem lt_cons {x : Nat} {l : List Nat} (h : x < 2 ^ 32) (hl : ∀ y ∈ l, y < 2 ^ 32) : ∀ y ∈ x :: l, y < 2 ^ 32 := by
  intro y hy
  rcases List.mem_cons.1 hy with rfl | h2
  · exact h
  · exact hl y h2
theorem lt_app {a b : List Nat} (h : ∀ y ∈ a, y < 2 ^ 32) (hl : ∀ y ∈ b, y < 2 ^ 32) : ∀ y ∈ a ++ b, y < 2 ^ 32 := by
  intro y hy
  rcases List.mem_append.1 hy with h2 | h2
  · exact h y h2
  · exact hl y h2
theorem Ow.nat {base n cap : Nat} {w : World} {A : Option Addr} {l : List Nat} (h : Ow base w (.slice A n cap) l) : NumsAt w .u32 A l := by
  obtain ⟨A2, c2, h1, _, _, h4, _⟩ := h.words
  injection h1 with e1 e2 e3
  rw [e1]; exact h4
set_option maxHeartbeats 4000000 in
theorem piece0_calls (tb : Nat) (A : Option Addr) (L : List Int) (c at' : Nat) (w : World) (T : TapeAt tb A L c at' w) :
    Calls Tryz.prog 61 #[.pointer (some ⟨tb, 0, none⟩), .int .i64 0] w fun e w' => SlR tb A L c 3 w e w' := by
  have htw := T.tb_lt
  have TX := Lib.hid T
  have VX := Lib.hid (Upd.refl [tb] w)
  clear T
  go_enter Tryz.func61, Tryz.ntmps61
  go_wp2_with (fail)
  refine (Next_calls _ _ _ _ _ 12 _ TX.out (by decide) (by decide)).mono ?_
  rintro e w1 ⟨r1, a1, hr1, rfl, T1, U1⟩
  have V1 := Lib.hid (VX.out.trans U1)
  clear TX VX U1
  have TX := Lib.hid T1
  have VX := V1
  clear T1 V1
  by_cases h5 : r1 < 5
  · go_wp2_with (fail)
    refine (reckon_calls _ _ _ _ _ _ TX.out).mono ?_
    rintro e w2 ⟨n, a2, hn, rfl, T2, U2⟩
    go_wp2_with (fail)
    go_ret
    exact one_row hn (by omega) T2 (VX.out.trans U2)
  by_cases h7 : r1 < 7
  · go_wp2_with (fail)
    refine (touch_calls _ _ _ _ _ _ TX.out).mono ?_
    rintro e w2 ⟨B, cap, l, a2, rfl, O2, hl2, hK2, T2, U2⟩
    go_wp2_with (fail)
    go_ret
    exact ⟨B, cap, l, a2, rfl, O2.mono VX.out.size, hl2, by omega, T2, VX.out.trans U2⟩
  by_cases e7 : r1 = 7
  · subst e7
    go_wp2_with (fail)
    refine (Next_calls _ _ _ _ _ 9 _ TX.out (by decide) (by decide)).mono ?_
    rintro e w2 ⟨r2, a2, hr2, rfl, T2, U2⟩
    have V2 := Lib.hid (VX.out.trans U2)
    clear TX VX U2
    have TX := Lib.hid T2
    have VX := V2
    clear T2 V2
    go_wp2_with (fail)
    refine (Out_calls (1 + r2) _ (by omega)).mono ?_
    rintro e w4 ⟨B, cap, rfl, O4, u4⟩
    go_wp2_with (fail)
    go_ret
    exact ⟨B, cap, outL (1 + r2), a2, rfl, O4.mono VX.out.size, outL_lt _ (by omega), (show 3 ≤ _ by omega), TX.out.upd u4 (fun g hg => by simp at hg), VX.out.trans (u4.mono (by simp))⟩
  by_cases e8 : r1 = 8
  · subst e8
    go_wp2_with (fail)
    refine (kcsr_calls _ _ _ _ _ _ TX.out).mono ?_
    rintro e w2 ⟨n, a2, hn, rfl, T2, U2⟩
    go_wp2_with (fail)
    go_ret
    exact one_row hn (by omega) T2 (VX.out.trans U2)
  have d7 : ((r1 : Int) == 7) = false := (cast_ne_b e7).1
  have d8 : ((r1 : Int) == 8) = false := (cast_ne_b e8).1
  by_cases e9 : r1 = 9
  · subst e9
    go_wp2_with (fail)
    refine (Next_calls _ _ _ _ _ 9 _ TX.out (by decide) (by decide)).mono ?_
    rintro e w2 ⟨r2, a2, hr2, rfl, T2, U2⟩
    have V2 := Lib.hid (VX.out.trans U2)
    clear TX VX U2
    have TX := Lib.hid T2
    have VX := V2
    clear T2 V2
    go_wp2_with (fail)
    refine (Word_calls _ _ _ _ _ _ TX.out).mono ?_
    rintro e w3 ⟨n, a3, hn, rfl, T3, U3⟩
    go_wp2_with (fail)
    refine (Set_calls (1 + r2) n _ (by omega) hn).mono ?_
    rintro e w4 ⟨B, cap, rfl, O4, u4⟩
    go_wp2_with (fail)
    go_ret
    exact ⟨B, cap, setL (1 + r2) n, a3, rfl, O4.mono (VX.out.trans U3).size, setL_lt _ _ (by omega), (show 2 ≤ _ by omega), T3.upd u4 (fun g hg => by simp at hg), (VX.out.trans U3).trans (u4.mono (by simp))⟩
  by_cases e10 : r1 = 10
  · subst e10
    go_wp2_with (fail)
    refine (Next_calls _ _ _ _ _ 9 _ TX.out (by decide) (by decide)).mono ?_
    rintro e w2 ⟨r2, a2, hr2, rfl, T2, U2⟩
    have V2 := Lib.hid (VX.out.trans U2)
    clear TX VX U2
    have TX := Lib.hid T2
    have VX := V2
    clear T2 V2
    go_wp2_with (fail)
    refine (Word_calls _ _ _ _ _ _ TX.out).mono ?_
    rintro e w3 ⟨n, a3, hn, rfl, T3, U3⟩
    go_wp2_with (fail)
    refine (Set_calls (1 + r2) n _ (by omega) hn).mono ?_
    rintro e w4 ⟨B, cap, rfl, O4, u4⟩
    go_wp2_with (fail)
    go_ret
    exact ⟨B, cap, setL (1 + r2) n, a3, rfl, O4.mono (VX.out.trans U3).size, setL_lt _ _ (by omega), (show 2 ≤ _ by omega), T3.upd u4 (fun g hg => by simp at hg), (VX.out.trans U3).trans (u4.mono (by simp))⟩
  have d9 : ((r1 : Int) == 9) = false := (cast_ne_b e9).1
  have d10 : ((r1 : Int) == 10) = false := (cast_ne_b e10).1
  go_wp2_with (fail)
  refine (Next_calls _ _ _ _ _ 9 _ TX.out (by decide) (by decide)).mono ?_
  rintro e w2 ⟨r2, a2, hr2, rfl, T2, U2⟩
  have V2 := Lib.hid (VX.out.trans U2)
  clear TX VX U2
  have TX := Lib.hid T2
  have VX := V2
  clear T2 V2
  go_wp2_with (fail)
  refine (Word_calls _ _ _ _ _ _ TX.out).mono ?_
  rintro e w3 ⟨n, a3, hn, rfl, T3, U3⟩
  go_wp2_with (fail)
  refine (Set_calls (1 + r2) n _ (by omega) hn).mono ?_
  rintro e w4 ⟨B, cap, rfl, O4, u4⟩
  go_wp2_with (fail)
  go_ret
  exact ⟨B, cap, setL (1 + r2) n, a3, rfl, O4.mono (VX.out.trans U3).size, setL_lt _ _ (by omega), (show 2 ≤ _ by omega), T3.upd u4 (fun g hg => by simp at hg), (VX.out.trans U3).trans (u4.mono (by simp))⟩

set_option maxRecDepth 20000 in
set_option maxHeartbeats 8000000 in
theorem pieceS_calls (tb : Nat) (A : Option Addr) (L : List Int) (c d K : Nat) (hd : d ≤ 1) (hK : 3 ≤ K ∧ K ≤ 9)
    (IH : ∀ at' w, TapeAt tb A L c at' w → Calls Tryz.prog 61 #[.pointer (some ⟨tb, 0, none⟩), .int .i64 (d : Int)] w fun e w' => SlR tb A L c K w e w')
    (at' : Nat) (w : World) (T : TapeAt tb A L c at' w) :
    Calls Tryz.prog 61 #[.pointer (some ⟨tb, 0, none⟩), .int .i64 ((d : Int) + 1)] w fun e w' => SlR tb A L c (K + 3) w e w' := by
  have htw := T.tb_lt
  have TX := Lib.hid T
  have VX := Lib.hid (Upd.refl [tb] w)
  clear T
  have g0 : decide ((0 : Int) < (d : Int) + 1) = true := decide_eq_true (by omega)
  go_enter Tryz.func61, Tryz.ntmps61
  go_wp2_with (fail)
  refine (Next_calls _ _ _ _ _ 12 _ TX.out (by decide) (by decide)).mono ?_
  rintro e w1 ⟨r1, a1, hr1, rfl, T1, U1⟩
  have V1 := Lib.hid (VX.out.trans U1)
  clear TX VX U1
  have TX := Lib.hid T1
  have VX := V1
  clear T1 V1
  by_cases h5 : r1 < 5
  · go_wp2_with (fail)
    refine (reckon_calls _ _ _ _ _ _ TX.out).mono ?_
    rintro e w2 ⟨n, a2, hn, rfl, T2, U2⟩
    go_wp2_with (fail)
    go_ret
    exact one_row hn (by omega) T2 (VX.out.trans U2)
  by_cases h7 : r1 < 7
  · go_wp2_with (fail)
    refine (touch_calls _ _ _ _ _ _ TX.out).mono ?_
    rintro e w2 ⟨B, cap, l, a2, rfl, O2, hl2, hK2, T2, U2⟩
    go_wp2_with (fail)
    go_ret
    exact ⟨B, cap, l, a2, rfl, O2.mono VX.out.size, hl2, by omega, T2, VX.out.trans U2⟩
  by_cases e7 : r1 = 7
  · subst e7
    go_wp2_with (fail)
    refine (Next_calls _ _ _ _ _ 9 _ TX.out (by decide) (by decide)).mono ?_
    rintro e w2 ⟨r2, a2, hr2, rfl, T2, U2⟩
    have V2 := Lib.hid (VX.out.trans U2)
    clear TX VX U2
    have TX := Lib.hid T2
    have VX := V2
    clear T2 V2
    go_wp2_with (fail)
    refine (Out_calls (1 + r2) _ (by omega)).mono ?_
    rintro e w4 ⟨B, cap, rfl, O4, u4⟩
    go_wp2_with (fail)
    go_ret
    exact ⟨B, cap, outL (1 + r2), a2, rfl, O4.mono VX.out.size, outL_lt _ (by omega), (show 3 ≤ _ by omega), TX.out.upd u4 (fun g hg => by simp at hg), VX.out.trans (u4.mono (by simp))⟩
  by_cases e8 : r1 = 8
  · subst e8
    go_wp2_with (fail)
    refine (kcsr_calls _ _ _ _ _ _ TX.out).mono ?_
    rintro e w2 ⟨n, a2, hn, rfl, T2, U2⟩
    go_wp2_with (fail)
    go_ret
    exact one_row hn (by omega) T2 (VX.out.trans U2)
  have d7 : ((r1 : Int) == 7) = false := (cast_ne_b e7).1
  have d8 : ((r1 : Int) == 8) = false := (cast_ne_b e8).1
  by_cases e9 : r1 = 9
  · subst e9
    go_wp2_with (fail)
    refine (IH _ _ TX.out).mono ?_
    rintro e w2 ⟨B, cap, l, a2, rfl, O2, hl2, hK2, T2, U2⟩
    have OX := Lib.hid (O2.mono VX.out.size)
    have V2 := Lib.hid (VX.out.trans U2)
    clear VX TX U2 O2
    have VX := V2
    have TX := Lib.hid T2
    clear V2 T2
    go_wp2_with (fail)
    refine (Next_calls _ _ _ _ _ 6 _ TX.out (by decide) (by decide)).mono ?_
    rintro e w3 ⟨r3, a3, hr3, rfl, T3, U3⟩
    have V3 := Lib.hid (VX.out.trans U3)
    have O3 := Lib.hid (OX.out.upd U3 (fun g hg => by simp at hg; omega))
    clear TX VX U3 OX
    have TX := Lib.hid T3
    have VX := V3
    have OX := O3
    clear T3 V3 O3
    go_wp2_with (fail)
    refine (Next_calls _ _ _ _ _ 10 _ TX.out (by decide) (by decide)).mono ?_
    rintro e w4 ⟨r4, a4, hr4, rfl, T4, U4⟩
    have V4 := Lib.hid (VX.out.trans U4)
    have O4 := Lib.hid (OX.out.upd U4 (fun g hg => by simp at hg; omega))
    clear TX VX U4 OX
    have TX := Lib.hid T4
    have VX := V4
    have OX := O4
    clear T4 V4 O4
    go_wp2_with (fail)
    refine (Next_calls _ _ _ _ _ 10 _ TX.out (by decide) (by decide)).mono ?_
    rintro e w5 ⟨r5, a5, hr5, rfl, T5, U5⟩
    have V5 := Lib.hid (VX.out.trans U5)
    have O5 := Lib.hid (OX.out.upd U5 (fun g hg => by simp at hg; omega))
    clear TX VX U5 OX
    have TX := Lib.hid T5
    have VX := V5
    have OX := O5
    clear T5 V5 O5
    go_wp2_with (fail)
    refine (word_calls (5 + r3) 0 r4 r5 _ _ (by omega) (by omega) (by omega) (by omega) (by omega)).mono ?_
    rintro e w8 ⟨rfl, u8⟩
    have hx : wordP (5 + r3) 0 r4 r5 (4 + 4 * (l.length : Int)) < 2 ^ 32 := wordP_lt _ _ _ _ _ (by omega) (by omega) (by omega) (by omega) (by omega)
    generalize wordP (5 + r3) 0 r4 r5 (4 + 4 * (l.length : Int)) = x at *
    have VA := Lib.hid ((VX.out.trans (u8.mono (T := [tb]) (by simp))).alloc (.cells (nums .u32 [x]) 36))
    have TA := Lib.hid ((TX.out.upd u8 (fun g hg => by simp at hg)).upd ((Upd.refl [] w8).alloc (.cells (nums .u32 [x]) 36)) (fun g hg => by simp at hg))
    have OA := Lib.hid ((OX.out.upd u8 (fun g hg => by simp at hg)).upd ((Upd.refl [] w8).alloc (.cells (nums .u32 [x]) 36)) (fun g hg => by simp at hg))
    have OL := Lib.hid (Ow.lit w8 [x] w.heap.size (VX.out.trans (u8.mono (T := [tb]) (by simp))).size (show 1 ≤ 5000 by decide))
    clear VX TX OX
    go_wp2_with (at_builtin; refine L_app (.tmp 60) (.tmp 61) rfl (by kernel_rfl) w.heap.size _ [x] rfl OL.out _ _ _ l rfl rfl OA.out.nat (by simp only [List.length_cons, List.length_nil]; omega) VA.out.size ?_)
    intro v' w9 O9 u9
    have U9 := VA.out.then u9 (fun g hg hlt => by have := OL.out.lt g hg; omega)
    have T9 := TA.out.upd u9 (fun g hg => by have := OL.out.lt g hg; omega)
    obtain ⟨B9, c9, rfl, hc91, hc92, hn9, hb9⟩ := O9.words
    go_wp2_with (fail)
    go_ret
    exact ⟨B9, c9, _, a5, rfl, O9, lt_cons hx hl2, by simp only [List.length_append, List.length_cons, List.length_nil]; omega, T9, U9⟩
  by_cases e10 : r1 = 10
  · subst e10
    go_wp2_with (fail)
    refine (IH _ _ TX.out).mono ?_
    rintro e w2 ⟨B, cap, l, a2, rfl, O2, hl2, hK2, T2, U2⟩
    have OX := Lib.hid (O2.mono VX.out.size)
    have V2 := Lib.hid (VX.out.trans U2)
    clear VX TX U2 O2
    have VX := V2
    have TX := Lib.hid T2
    clear V2 T2
    go_wp2_with (fail)
    refine (Next_calls _ _ _ _ _ 4 _ TX.out (by decide) (by decide)).mono ?_
    rintro e w3 ⟨r3, a3, hr3, rfl, T3, U3⟩
    have V3 := Lib.hid (VX.out.trans U3)
    have O3 := Lib.hid (OX.out.upd U3 (fun g hg => by simp at hg; omega))
    clear TX VX U3 OX
    have TX := Lib.hid T3
    have VX := V3
    have OX := O3
    clear T3 V3 O3
    go_wp2_with (fail)
    refine (word_calls 19 (20 + (d + 1)) 0 0 _ _ (by omega) (by omega) (by omega) (by omega) (by omega)).mono ?_
    rintro e w8 ⟨rfl, u8⟩
    have hx : wordP 19 (20 + (d + 1)) 0 0 (1 + (r3 : Int)) < 2 ^ 32 := wordP_lt _ _ _ _ _ (by omega) (by omega) (by omega) (by omega) (by omega)
    generalize wordP 19 (20 + (d + 1)) 0 0 (1 + (r3 : Int)) = x at *
    have VA := Lib.hid ((VX.out.trans (u8.mono (T := [tb]) (by simp))).alloc (.cells (nums .u32 [x]) 36))
    have TA := Lib.hid ((TX.out.upd u8 (fun g hg => by simp at hg)).upd ((Upd.refl [] w8).alloc (.cells (nums .u32 [x]) 36)) (fun g hg => by simp at hg))
    have OA := Lib.hid ((OX.out.upd u8 (fun g hg => by simp at hg)).upd ((Upd.refl [] w8).alloc (.cells (nums .u32 [x]) 36)) (fun g hg => by simp at hg))
    have OL := Lib.hid (Ow.lit w8 [x] w.heap.size (VX.out.trans (u8.mono (T := [tb]) (by simp))).size (show 1 ≤ 5000 by decide))
    clear VX TX OX
    go_wp2_with (at_builtin; refine L_app (.tmp 82) (.tmp 83) rfl (by kernel_rfl) w.heap.size _ [x] rfl OL.out _ _ _ l rfl rfl OA.out.nat (by simp only [List.length_cons, List.length_nil]; omega) VA.out.size ?_)
    intro v' w9 O9 u9
    have U9 := VA.out.then u9 (fun g hg hlt => by have := OL.out.lt g hg; omega)
    have T9 := TA.out.upd u9 (fun g hg => by have := OL.out.lt g hg; omega)
    have VX := Lib.hid U9
    have TX := Lib.hid T9
    have OX := Lib.hid O9
    clear U9 T9 O9
    obtain ⟨B9, c9, rfl, hc91, hc92, hn9, hb9⟩ := OX.out.words
    clear hn9 hb9 hc91 hc92
    go_wp2_with (fail)
    refine (word_calls 19 (20 + (d + 1)) (20 + (d + 1)) 0 _ _ (by omega) (by omega) (by omega) (by omega) (by omega)).mono ?_
    rintro e w10 ⟨rfl, u10⟩
    have hx2 : wordP 19 (20 + (d + 1)) (20 + (d + 1)) 0 (-1) < 2 ^ 32 := wordP_lt _ _ _ _ _ (by omega) (by omega) (by omega) (by omega) (by omega)
    generalize wordP 19 (20 + (d + 1)) (20 + (d + 1)) 0 (-1) = x2 at *
    go_wp2_with (fail)
    have hgen : ∀ im : Int, wordP 6 0 (20 + (d + 1)) 0 im < 2 ^ 32 := fun im => wordP_lt _ _ _ _ _ (by omega) (by omega) (by omega) (by omega) (by omega)
    refine (word_calls 6 0 (20 + (d + 1)) 0 _ _ (by omega) (by omega) (by omega) (by omega) (by omega)).mono ?_
    rintro e w11 ⟨rfl, u11⟩
    generalize hx3 : wordP 6 0 (20 + (d + 1)) 0 _ = x3
    have hx3' : x3 < 2 ^ 32 := by rw [← hx3]; exact hgen _
    clear hx3 hgen
    have u12 := u10.trans u11
    have VA := Lib.hid ((VX.out.trans (u12.mono (T := [tb]) (by simp))).alloc (.cells (nums .u32 [x2, x3]) 36))
    have TA := Lib.hid ((TX.out.upd u12 (fun g hg => by simp at hg)).upd ((Upd.refl [] w11).alloc (.cells (nums .u32 [x2, x3]) 36)) (fun g hg => by simp at hg))
    have OA := Lib.hid ((OX.out.upd u12 (fun g hg => by simp at hg)).upd ((Upd.refl [] w11).alloc (.cells (nums .u32 [x2, x3]) 36)) (fun g hg => by simp at hg))
    clear VX TX OX u10 u11 u12
    go_wp2_with (at_builtin; refine L_app (.tmp 85) (.tmp 96) rfl (by kernel_rfl) w.heap.size _ ([x] ++ l) rfl OA.out _ _ _ [x2, x3] rfl rfl (numsAt_new w11 .u32 [x2, x3] 36) (by simp only [List.length_append, List.length_cons, List.length_nil]; omega) VA.out.size ?_)
    intro v' w12 O12 u12
    have U12 := VA.out.then u12 (fun g hg hlt => by have := OA.out.lt g hg; omega)
    have T12 := TA.out.upd u12 (fun g hg => by have := OA.out.lt g hg; omega)
    obtain ⟨B12, c12, rfl, hc1, hc2, hn1, hb1⟩ := O12.words
    go_wp2_with (fail)
    go_ret
    exact ⟨B12, c12, _, a3, rfl, O12, lt_app (lt_cons hx hl2) (lt_cons hx2 (lt_cons hx3' (by simp))), by simp only [List.length_append, List.length_cons, List.length_nil]; omega, T12, U12⟩
  have d9 : ((r1 : Int) == 9) = false := (cast_ne_b e9).1
  have d10 : ((r1 : Int) == 10) = false := (cast_ne_b e10).1
  go_wp2_with (fail)
  refine (Next_calls _ _ _ _ _ 9 _ TX.out (by decide) (by decide)).mono ?_
  rintro e w2 ⟨r2, a2, hr2, rfl, T2, U2⟩
  have V2 := Lib.hid (VX.out.trans U2)
  clear TX VX U2
  have TX := Lib.hid T2
  have VX := V2
  clear T2 V2
  go_wp2_with (fail)
  refine (Word_calls _ _ _ _ _ _ TX.out).mono ?_
  rintro e w3 ⟨n, a3, hn, rfl, T3, U3⟩
  go_wp2_with (fail)
  refine (Set_calls (1 + r2) n _ (by omega) hn).mono ?_
  rintro e w4 ⟨B, cap, rfl, O4, u4⟩
  go_wp2_with (fail)
  go_ret
  exact ⟨B, cap, setL (1 + r2) n, a3, rfl, O4.mono (VX.out.trans U3).size, setL_lt _ _ (by omega), (show 2 ≤ _ by omega), T3.upd u4 (fun g hg => by simp at hg), (VX.out.trans U3).trans (u4.mono (by simp))⟩
end Go.Proofs.YtmdjhahafjlebaaGreatDoor
