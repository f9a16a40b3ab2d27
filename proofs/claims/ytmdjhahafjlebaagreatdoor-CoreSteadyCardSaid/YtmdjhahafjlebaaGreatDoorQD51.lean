/- Tapes: whole programs. -/
import Derived.Test.YtmdjhahafjlebaaGreatDoorQD50
import Derived.Test.YtmdjhahafjlebaaGreatDoorQD37
import Derived.Deep.LoopGhost
import Derived.Deep.Cut
namespace Go.Proofs.YtmdjhahafjlebaaGreatDoor
open Go.RowKit Go.Dio
set_option linter.unusedSimpArgs false
set_option linter.unusedVariables false

theorem piece2_calls (tb : Nat) (A : Option Addr) (L : List Int) (c at' : Nat) (w : World) (T : TapeAt tb A L c at' w) :
    Calls Tryz.prog 61 #[.pointer (some ⟨tb, 0, none⟩), .int .i64 2] w fun e w' => SlR tb A L c 9 w e w' :=
  pieceS_calls tb A L c 1 6 (by decide) (by decide) (fun a1 w1 T1 => pieceS_calls tb A L c 0 3 (by decide) (by decide) (fun a0 w0 T0 => piece0_calls tb A L c a0 w0 T0) a1 w1 T1) at' w T
theorem Ow.keepG {base gb n cap : Nat} {w w' : World} {l : List Nat} {S : List Nat} (h : Ow base w (.slice (some ⟨gb, 0, none⟩) n cap) l) (u : Upd S w w') (hS : ∀ g ∈ S, gb + 1 ≤ g) : Ow base w' (.slice (some ⟨gb, 0, none⟩) n cap) l :=
  own_upd h u (fun g hg hs => by
    have e : g = gb := by simp [Value.ownBlock] at hg; exact hg.symm
    have := hS g hs; omega)
/-- What a program's making tells: a row of the call's own. -/
def RowR (K : Nat) (w : World) (e : Ending) (w' : World) : Prop :=
  ∃ (B : Option Addr) (cap : Nat) (l : List Nat), e = .returned (.slice B l.length cap) ∧ Ow w.heap.size w' (.slice B l.length cap) l ∧ (∀ x ∈ l, x < 2 ^ 32) ∧ l.length ≤ K ∧ Upd [] w w'
set_option maxRecDepth 8000 in
set_option maxHeartbeats 8000000 in
theorem image_calls (A : Option Addr) (L : List Int) (c most : Nat) (w : World) (hA : IntsAt w A L) (hlt : ∀ b o s, A = some ⟨b, o, s⟩ → b < w.heap.size) (hsm : L.length ≤ 9223372036854775807)
    (hwf : ∀ x ∈ L, -9223372036854775808 ≤ x ∧ x ≤ 9223372036854775807) (hm : 1 ≤ most ∧ most ≤ 100) (hm2 : most ≤ 1099511627776) :
    Calls Tryz.prog 26 #[.slice A L.length c, .int .i64 (most : Int)] w fun e w' => RowR 776 w e w' := by
  have T0 : Hid (TapeAt w.heap.size A L c 0 (w.alloc (.cells #[.slice A L.length c, .int .i64 0] 63))) := Lib.hid ⟨hl1 _ _, hA.of_upd ((Upd.refl _ _).alloc _), hlt, by omega, hsm, hwf⟩
  have U0 := Lib.hid ((Upd.refl [] w).alloc (.cells #[.slice A L.length c, .int .i64 0] 63))
  clear hA hlt hsm hwf
  obtain ⟨N, hN⟩ : ∃ N, N = L.length := ⟨_, rfl⟩
  rw [← hN] at T0 U0 ⊢
  clear hN
  go_enter Tryz.func26, Tryz.ntmps26
  go_upto_region 2 with (fail)
  have hs1 : (w.alloc (.cells #[.slice A N c, .int .i64 0] 63)).heap.size = w.heap.size + 1 := by simp
  obtain ⟨tb, htb⟩ : ∃ tb, tb = w.heap.size := ⟨_, rfl⟩
  rw [← htb] at T0 ⊢
  rw [← htb] at hs1
  generalize w.alloc (.cells #[.slice A N c, .int .i64 0] 63) = W1 at T0 U0 hs1 ⊢
  have T1 : Hid (TapeAt tb A L c 0 W1) := T0
  clear T0
  have HTB := Lib.hid htb
  clear htb
  have TX := T1
  have VX := U0
  clear T1 U0
  go_wp2_with (fail)
  refine (Set_calls 29 3072 _ (by decide) (by decide)).mono ?_
  rintro e w2 ⟨B, cap, rfl, O2, u2⟩
  go_wp2_with (fail)
  refine (word_calls 50 0 29 0 _ _ (by decide) (by decide) (by decide) (by decide) (by decide)).mono ?_
  rintro e w3 ⟨rfl, u3⟩
  have u3' := u2.trans u3
  have OX := Lib.hid ((O2.upd u3 (fun g hg => by simp at hg)).mono (b2 := tb + 1) (by omega))
  have TY := Lib.hid (TX.out.upd u3' (fun g hg => by simp at hg))
  have VY := Lib.hid (VX.out.trans u3')
  have hx := wordP_lt 50 0 29 0 773 (by decide) (by decide) (by decide) (by decide) (by decide)
  generalize wordP 50 0 29 0 773 = x at hx ⊢
  have hS := setL_lt 29 3072 (by decide)
  have hSl : (setL 29 3072).length = 2 := rfl
  generalize setL 29 3072 = S at OX hS hSl
  clear O2 u2 u3 u3' TX VX
  have VA := Lib.hid (VY.out.alloc (.cells (nums .u32 [x]) 36))
  have TA := Lib.hid (TY.out.upd ((Upd.refl [] w3).alloc (.cells (nums .u32 [x]) 36)) (fun g hg => by simp at hg))
  have OA := Lib.hid (OX.out.upd ((Upd.refl [] w3).alloc (.cells (nums .u32 [x]) 36)) (fun g hg => by simp at hg))
  have hsz := TA.out.tb_lt
  clear VY TY OX
  go_wp2_with (at_builtin; refine L_app (.tmp 14) (.tmp 16) rfl (by kernel_rfl) (tb + 1) _ S rfl OA.out _ _ _ [x] rfl rfl (numsAt_new w3 .u32 [x] 36) (by simp only [List.length_cons, List.length_nil]; omega) hsz ?_)
  intro v' w4 O4 u4
  have VX := Lib.hid (VA.out.then u4 (fun g hg hlt => by have := OA.out.lt g hg; have := HTB.out; omega))
  have TX := Lib.hid (TA.out.upd u4 (fun g hg => by have := OA.out.lt g hg; omega))
  have hl4 : (S ++ [x]).length = 3 := by simp [hSl]
  have hS4 : ∀ y ∈ S ++ [x], y < 2 ^ 32 := lt_app hS (lt_cons hx (by simp))
  generalize S ++ [x] = R at O4 hl4 hS4
  obtain ⟨B4, c4, rfl, hc1, hc2, hn4, hb4⟩ := O4.words
  have OX := Lib.hid O4
  have HR := Lib.hid hS4
  clear VA TA OA hsz u4 O4 hc1 hc2 hn4 hb4 hS hSl hx hS4
  generalize hRl : R.length = RL at hl4 ⊢
  subst hl4
  go_wp2_with (fail)
  refine (Next_calls _ _ _ _ _ most _ TX.out hm.1 hm2).mono ?_
  rintro e w5 ⟨r5, a5, hr5, rfl, T5, U5⟩
  have V5 := Lib.hid (VX.out.then U5 (fun y hy hlt => by simp at hy; have := HTB.out; omega))
  have O5 := Lib.hid (OX.out.upd U5 (fun g hg => by simp at hg; omega))
  have TX5 := Lib.hid T5
  clear VX TX OX U5 T5
  go_wp2_with (fail)
  go_loopg [6, 7] (2 + r5) (fun g v6 v7 wl => ∃ (k : Nat) (B : Option Addr) (cap : Nat) (l : List Nat) (a n : Nat), v7 = .int .i64 (k : Int) ∧ k ≤ 102 ∧ g = k ∧ v6 = .slice B n cap ∧ n < 400 ∧ Hid (l.length = n) ∧ Hid (Ow (tb + 1) wl (.slice B n cap) l) ∧ Hid (∀ y ∈ l, y < 2 ^ 32) ∧ Hid (TapeAt tb A L c a wl) ∧ Hid (Upd [] w wl))
  case atStart => exact ⟨2 + r5, B4, c4, R, a5, 3, by push_cast; rfl, by omega, rfl, rfl, by omega, Lib.hid hRl, Lib.hid (hRl ▸ O5.out), HR, TX5, V5⟩
  case round =>
    clear V5 O5 TX5 HR hRl
    obtain ⟨k, B, cap, l, a, n, rfl, hk, hg, rfl, hn, HN, OX, HL, TX, VX⟩ := hrel
    rcases Nat.eq_zero_or_pos k with h0 | hpos
    · subst h0
      go_wp2_with (fail)
      refine (Next_calls _ _ _ _ _ 9 _ TX.out (by decide) (by decide)).mono ?_
      rintro e w6 ⟨r6, a6, hr6, rfl, T6, U6⟩
      have OY := Lib.hid (OX.out.upd U6 (fun g hg => by simp at hg; omega))
      have VY := Lib.hid (VX.out.then U6 (fun y hy hlt => by simp at hy; have := HTB.out; omega))
      have TY := Lib.hid T6
      clear OX TX VX U6 T6
      have d9 : ∃ z : Bool, z = decide ((0 : Int) < (r6 : Int)) := ⟨_, rfl⟩
      clear d9
      obtain ⟨wo, rfl⟩ : ∃ wo, wo = w6 := ⟨_, rfl⟩
      go_upto_if 39 with (fail)
      go_cut [6] (fun v6 wc => ∃ (B : Option Addr) (cap : Nat) (l : List Nat) (n : Nat), v6 = .slice B n cap ∧ n ≤ 403 ∧ Hid (l.length = n) ∧ Hid (Ow (tb + 1) wc (.slice B n cap) l) ∧ Hid (∀ y ∈ l, y < 2 ^ 32) ∧ Hid (tb < wc.heap.size) ∧ Hid (Upd [] w wc))
      case first =>
        have hst := stopL_lt
        by_cases h6 : r6 = 0
        · subst h6
          go_wp2_with (fail)
          refine (Next_calls _ _ _ _ _ 2 _ TY.out (by decide) (by decide)).mono ?_
          rintro e w7 ⟨r7, a7, hr7, rfl, T7, U7⟩
          have OZ := Lib.hid (OY.out.upd U7 (fun g hg => by simp at hg; omega))
          have VZ := Lib.hid (VY.out.then U7 (fun y hy hlt => by simp at hy; have := HTB.out; omega))
          have TZ := Lib.hid T7
          clear OY TY VY U7 T7 hst
          by_cases h7 : r7 = 0
          · subst h7
            go_wp2_with (fail)
            refine (word_calls 3 0 0 0 _ _ (by decide) (by decide) (by decide) (by decide) (by decide)).mono ?_
            rintro e w8 ⟨rfl, u8⟩
            have hx := wordP_lt 3 0 0 0 0 (by decide) (by decide) (by decide) (by decide) (by decide)
            generalize wordP 3 0 0 0 0 = x at hx ⊢
            have VA := Lib.hid ((VZ.out.trans u8).alloc (.cells (nums .u32 [x]) 36))
            have TA := Lib.hid ((TZ.out.upd u8 (fun g hg => by simp at hg)).upd ((Upd.refl [] w8).alloc (.cells (nums .u32 [x]) 36)) (fun g hg => by simp at hg))
            have OA := Lib.hid ((OZ.out.upd u8 (fun g hg => by simp at hg)).upd ((Upd.refl [] w8).alloc (.cells (nums .u32 [x]) 36)) (fun g hg => by simp at hg))
            have hsz := TA.out.tb_lt
            have HNN := HN.out
            subst HNN
            clear OZ VZ TZ u8
            go_wp2_with (at_builtin; refine L_app (.tmp 49) (.tmp 51) rfl (by kernel_rfl) (tb + 1) _ l rfl OA.out _ _ _ [x] rfl rfl (numsAt_new w8 .u32 [x] 36) (by simp only [List.length_cons, List.length_nil]; omega) hsz ?_)
            intro v' w9 O9 u9
            have V9 := Lib.hid (VA.out.then u9 (fun g hg hlt => by have := OA.out.lt g hg; have := HTB.out; omega))
            have T9 := TA.out.upd u9 (fun g hg => by have := OA.out.lt g hg; omega)
            have hz9 := Lib.hid T9.tb_lt
            have H9 := Lib.hid (lt_app HL.out (lt_cons (l := []) hx (by simp)))
            have hl9 : (l ++ [x]).length ≤ 403 := by rw [List.length_append]; simp; omega
            obtain ⟨B9, c9, rfl, hc1, hc2, hn9, hb9⟩ := O9.words
            have O9' := Lib.hid O9
            clear hc1 hc2 hn9 hb9 O9 u9 T9 VA TA OA hsz HL hx
            generalize l ++ [x] = R2 at O9' H9 hl9 ⊢
            obtain ⟨n2, hn2⟩ : ∃ n2, n2 = R2.length := ⟨_, rfl⟩
            rw [← hn2] at O9' hl9 ⊢
            have HN2 := Lib.hid hn2.symm
            clear hn2
            go_wp2_with (fail)
            go_meet
            case rel => exact ⟨B9, c9, R2, n2, rfl, hl9, HN2, O9', H9, hz9, V9⟩
          · have d7 : ((r7 : Int) == 0) = false := (cast_ne_b h7).1
            clear h7
            go_wp2_with (fail)
            go_meet
            case rel => exact ⟨B, cap, l, n, rfl, by omega, HN, OZ, HL, Lib.hid TZ.out.tb_lt, VZ⟩
        · have d6 : decide ((0 : Int) < (r6 : Int)) = true := decide_eq_true (by omega)
          have h6p : 0 < r6 := by omega
          clear h6
          go_wp2_with (fail)
          refine (Next_calls _ _ _ _ _ 9 _ TY.out (by decide) (by decide)).mono ?_
          rintro e w7 ⟨r7, a7, hr7, rfl, T7, U7⟩
          have OZ := Lib.hid (OY.out.upd U7 (fun g hg => by simp at hg; omega))
          have VZ := Lib.hid (VY.out.then U7 (fun y hy hlt => by simp at hy; have := HTB.out; omega))
          have TZ := Lib.hid T7
          clear OY TY VY U7 T7
          go_wp2_with (fail)
          refine (Stop_calls (1 + r7) _ (by omega)).mono ?_
          rintro e w8 ⟨B8, c8, rfl, O8, u8⟩
          have hS := stopL_lt (1 + r7) (by omega)
          have hSl : (stopL (1 + r7)).length = 3 := rfl
          generalize stopL (1 + r7) = S at O8 hS hSl
          have VA := Lib.hid (VZ.out.trans u8)
          have TA := Lib.hid (TZ.out.upd u8 (fun g hg => by simp at hg))
          have OA := Lib.hid (OZ.out.upd u8 (fun g hg => by simp at hg))
          have hsz := TA.out.tb_lt
          have HNN := HN.out
          subst HNN
          have OS := Lib.hid O8
          clear OZ VZ TZ u8 hst O8
          go_wp2_with (at_builtin; refine L_app (.tmp 40) (.tmp 44) rfl (by kernel_rfl) (tb + 1) _ l rfl OA.out _ _ _ S rfl hSl.symm OS.out.nat (by omega) hsz ?_)
          intro v' w9 O9 u9
          have V9 := Lib.hid (VA.out.then u9 (fun g hg hlt => by have := OA.out.lt g hg; have := HTB.out; omega))
          have T9 := TA.out.upd u9 (fun g hg => by have := OA.out.lt g hg; omega)
          have hz9 := Lib.hid T9.tb_lt
          have H9 := Lib.hid (lt_app HL.out hS)
          have hl9 : (l ++ S).length ≤ 403 := by rw [List.length_append]; omega
          obtain ⟨B9, c9, rfl, hc1, hc2, hn9, hb9⟩ := O9.words
          have O9' := Lib.hid O9
          clear hc1 hc2 hn9 hb9 O9 u9 T9 VA TA OA hsz HL hS OS hSl
          generalize l ++ S = R2 at O9' H9 hl9 ⊢
          obtain ⟨n2, hn2⟩ : ∃ n2, n2 = R2.length := ⟨_, rfl⟩
          rw [← hn2] at O9' hl9 ⊢
          have HN2 := Lib.hid hn2.symm
          clear hn2
          go_wp2_with (fail)
          go_meet
          case rel => exact ⟨B9, c9, R2, n2, rfl, hl9, HN2, O9', H9, hz9, V9⟩
      case rest =>
        clear OY VY TY HL HN
        obtain ⟨B, cap, l, n, rfl, hn, HN, OX, HL, HZ, VX⟩ := hcut
        obtain ⟨Z, hZ, hmk0⟩ := ex_rep 768 (by decide)
        have hmk : ∀ u : World, (Instr.makeSlice 23 (.int .i64 768) (.int .i64 768)).run Tryz.prog u = .ok (.slice (some ⟨u.heap.size, 0, none⟩) 768 768) (u.alloc (.cells (nums .u32 Z) 36)) := hmk0
        clear hmk0
        have HZL := Lib.hid hZ
        clear hZ
        have hzl := HZ.out
        have hLen := HN.out
        have O1 := Lib.hid (OX.out.upd ((Upd.refl [] wc).alloc (.cells (nums .u32 Z) 36)) (fun g hg => by simp at hg))
        have G1 := Lib.hid (hl1 wc (.cells (nums .u32 Z) 36))
        have V1 := Lib.hid (VX.out.alloc (.cells (nums .u32 Z) 36))
        have hs1 : (wc.alloc (.cells (nums .u32 Z) 36)).heap.size = wc.heap.size + 1 := by simp
        clear OX VX
        go_wp2_with ((with_reducible refine at_op 56 ?_); refine L_cpy rfl (.tmp 54) (.tmp 55) rfl wc.heap.size 768 Z HZL.out rfl _ _ _ l rfl hLen O1.out.nat G1.out hs1 (by omega) ?_)
        intro w2 hg2 u2
        obtain ⟨gb, hgb⟩ : ∃ gb, gb = wc.heap.size := ⟨_, rfl⟩
        rw [← hgb] at hg2 u2 hzl ⊢
        have V2 := Lib.hid (V1.out.then u2 (fun y hy hlt => by simp at hy; have := HTB.out; omega))
        rw [← hLen] at hg2
        have hM : (l ++ List.replicate (768 - l.length) 0).length = 768 := by rw [List.length_append, List.length_replicate]; omega
        have HM : ∀ y ∈ l ++ List.replicate (768 - l.length) 0, y < 2 ^ 32 := lt_app HL.out (fun y hy => by obtain rfl := List.eq_of_mem_replicate hy; decide)
        generalize l ++ List.replicate (768 - l.length) 0 = M at hg2 hM HM
        have OM : Hid (Ow (tb + 1) w2 (.slice (some ⟨gb, 0, none⟩) 768 768) M) := Lib.hid (by have := Ow.of_block (base := tb + 1) hg2 (by omega) (by omega); rwa [hM] at this)
        have hb2 := Lib.hid (lt_of_block hg2)
        have hgt : tb < gb := by omega
        have HMM := Lib.hid HM
        clear O1 G1 V1 hs1 hg2 u2 HL HM HN hLen HZ hmk HZL hgb
        clear hn
        go_wp2_with (fail)
        refine (word_calls 51 28 0 0 _ _ (by decide) (by decide) (by decide) (by decide) (by decide)).mono ?_
        rintro e w3 ⟨rfl, u3⟩
        have hx1 := wordP_lt 51 28 0 0 834 (by decide) (by decide) (by decide) (by decide) (by decide)
        generalize wordP 51 28 0 0 834 = x1 at hx1 ⊢
        have V3 := Lib.hid ((V2.out.trans u3).alloc (.cells (nums .u32 [x1]) 36))
        have O3 := Lib.hid ((OM.out.upd u3 (fun g hg => by simp at hg)).upd ((Upd.refl [] w3).alloc (.cells (nums .u32 [x1]) 36)) (fun g hg => by simp at hg))
        have hz3 := Lib.hid (Nat.lt_of_lt_of_le hb2.out u3.size)
        have W3 := Lib.hid (Ow.lit w3 [x1] (gb + 1) hz3.out (show 1 ≤ 5000 by decide))
        clear V2 OM hb2 u3
        go_wp2_with (fail)
        refine (Out_calls 28 _ (by decide)).mono ?_
        rintro e w4 ⟨B4, c4, rfl, O4, u4⟩
        have hS4 := outL_lt 28 (by decide)
        have hS4l : (outL 28).length = 3 := rfl
        generalize outL 28 = S4 at O4 hS4 hS4l
        have V4 := Lib.hid (V3.out.trans u4)
        have OM := Lib.hid (O3.out.upd u4 (fun g hg => by simp at hg))
        have W4 := Lib.hid (W3.out.upd u4 (fun g hg => by simp at hg))
        have N4 := Lib.hid O4.nat
        have hz4 : gb + 1 ≤ w4.heap.size := Nat.le_trans (Nat.le_trans hz3.out (by simp)) u4.size
        clear V3 O3 W3 u4 O4 hz3
        go_wp2_with (at_builtin; refine L_app (.tmp 59) (.tmp 60) rfl (by kernel_rfl) (gb + 1) _ [x1] rfl W4.out _ _ _ S4 rfl hS4l.symm N4.out (by simp only [List.length_cons, List.length_nil]; omega) hz4 ?_)
        intro v' w5 O5 u5
        have V5 := Lib.hid (V4.out.then u5 (fun g hg hlt => by have := W4.out.lt g hg; have := HTB.out; omega))
        have OM5 := Lib.hid (OM.out.keepG u5 W4.out.lt)
        have hz5 := Lib.hid (Nat.le_trans hz4 u5.size)
        obtain ⟨B5, c5, rfl, hc1, hc2, hn5, hb5⟩ := O5.words
        have hY := Lib.hid (lt_cons hx1 hS4)
        have hYl : (x1 :: S4).length = 4 := by rw [List.length_cons, hS4l]
        have O5' := Lib.hid O5
        clear hc1 hc2 hn5 hb5 O5 u5 V4 OM W4 N4 hz4 hS4 hS4l hx1
        generalize x1 :: S4 = Y at O5' hY hYl ⊢
        rw [hYl] at O5' ⊢
        have HYL := Lib.hid hYl
        clear hYl
        go_wp2_with (fail)
        refine (word_calls 51 27 0 0 _ _ (by decide) (by decide) (by decide) (by decide) (by decide)).mono ?_
        rintro e w6 ⟨rfl, u6⟩
        have g1 := wordP_lt 51 27 0 0 833 (by decide) (by decide) (by decide) (by decide) (by decide)
        generalize wordP 51 27 0 0 833 = y1 at g1 ⊢
        go_wp2_with (fail)
        refine (word_calls 19 27 27 0 _ _ (by decide) (by decide) (by decide) (by decide) (by decide)).mono ?_
        rintro e w7 ⟨rfl, u7⟩
        have g2 := wordP_lt 19 27 27 0 4 (by decide) (by decide) (by decide) (by decide) (by decide)
        generalize wordP 19 27 27 0 4 = y2 at g2 ⊢
        go_wp2_with (fail)
        refine (word_calls 50 0 27 0 _ _ (by decide) (by decide) (by decide) (by decide) (by decide)).mono ?_
        rintro e w8 ⟨rfl, u8⟩
        have g3 := wordP_lt 50 0 27 0 833 (by decide) (by decide) (by decide) (by decide) (by decide)
        generalize wordP 50 0 27 0 833 = y3 at g3 ⊢
        go_wp2_with (fail)
        refine (word_calls 49 0 0 0 _ _ (by decide) (by decide) (by decide) (by decide) (by decide)).mono ?_
        rintro e w9 ⟨rfl, u9⟩
        have g4 := wordP_lt 49 0 0 0 0 (by decide) (by decide) (by decide) (by decide) (by decide)
        generalize wordP 49 0 0 0 0 = y4 at g4 ⊢
        have hW := Lib.hid (lt_cons g1 (lt_cons g2 (lt_cons g3 (lt_cons (l := []) g4 (by simp)))))
        have u9' := ((u6.trans u7).trans u8).trans u9
        have V9 := Lib.hid ((V5.out.trans u9').alloc (.cells (nums .u32 [y1, y2, y3, y4]) 36))
        have OM9 := Lib.hid ((OM5.out.upd u9' (fun g hg => by simp at hg)).upd ((Upd.refl [] w9).alloc (.cells (nums .u32 [y1, y2, y3, y4]) 36)) (fun g hg => by simp at hg))
        have W9 := Lib.hid ((O5'.out.upd u9' (fun g hg => by simp at hg)).upd ((Upd.refl [] w9).alloc (.cells (nums .u32 [y1, y2, y3, y4]) 36)) (fun g hg => by simp at hg))
        have hz9 : gb + 1 ≤ (w9.alloc (.cells (nums .u32 [y1, y2, y3, y4]) 36)).heap.size := Nat.le_trans hz5.out (Nat.le_trans u9'.size (by simp))
        clear u6 u7 u8 u9 u9' V5 OM5 O5' hz5 g1 g2 g3 g4
        have hYL := HYL.out
        go_wp2_with (at_builtin; refine L_app (.tmp 61) (.tmp 66) rfl (by kernel_rfl) (gb + 1) _ Y rfl (show Ow _ _ _ Y from W9.out) _ _ _ [y1, y2, y3, y4] rfl rfl (numsAt_new w9 .u32 [y1, y2, y3, y4] 36) (by simp only [List.length_cons, List.length_nil]; omega) hz9 ?_)
        intro v' w10 O10 u10
        have V10 := Lib.hid (V9.out.then u10 (fun g hg hlt => by have := W9.out.lt g hg; have := HTB.out; omega))
        have OM10 := Lib.hid (OM9.out.keepG u10 W9.out.lt)
        have hz10 := Lib.hid (Nat.le_trans hz9 u10.size)
        obtain ⟨B10, c10, rfl, hc1, hc2, hn10, hb10⟩ := O10.words
        have hY2 := Lib.hid (lt_app hY.out hW.out)
        have hYl2 : (Y ++ [y1, y2, y3, y4]).length = 8 := by rw [List.length_append, hYL]; rfl
        have O10' := Lib.hid O10
        clear hc1 hc2 hn10 hb10 O10 u10 V9 OM9 W9 hz9 hY hW hYL HYL
        generalize Y ++ [y1, y2, y3, y4] = Y2 at O10' hY2 hYl2 ⊢
        have HYL2 := Lib.hid hYl2
        rw [hYl2] at O10' ⊢
        clear hYl2
        have hz11 : tb + 1 ≤ w10.heap.size := by have := hz10.out; omega
        have HML := Lib.hid hM
        have hM8 : M.length + Y2.length ≤ 5000 := by rw [hM, HYL2.out]; decide
        clear hM
        go_wp2_with (at_builtin; refine L_app (.tmp 68) (.tmp 69) rfl (by kernel_rfl) (tb + 1) _ M rfl OM10.out _ _ _ Y2 rfl HYL2.out.symm O10'.out.nat hM8 hz11 ?_)
        intro v' w11 O11 u11
        have V11 := V10.out.then u11 (fun g hg hlt => by have := OM10.out.lt g hg; have := HTB.out; omega)
        obtain ⟨B11, c11, rfl, hc1, hc2, hn11, hb11⟩ := O11.words
        have htb := HTB.out
        clear HTB
        have O11' := Lib.hid (O11.mono (b2 := w.heap.size) (by omega))
        have HL11 : (M ++ Y2).length ≤ 776 := by rw [List.length_append, HML.out, HYL2.out]; decide
        clear hn11 hb11 hc1 hc2 O11
        go_wp2_with (fail)
        go_ret
        exact ⟨B11, c11, M ++ Y2, rfl, O11'.out, lt_app HMM.out hY2.out, HL11, V11⟩
    · obtain ⟨m, rfl⟩ : ∃ m, k = m + 1 := ⟨k - 1, by omega⟩
      have d0 : decide ((0 : Int) < ((m + 1 : Nat) : Int)) = true := decide_eq_true (by omega)
      go_wp2_with (fail)
      refine (piece2_calls _ _ _ _ _ _ TX.out).mono ?_
      rintro e w6 ⟨B6, c6, p, a6, rfl, O6, hp, hpl, T6, U6⟩
      have OY := Lib.hid (OX.out.upd U6 (fun g hg => by simp at hg; omega))
      have OP := Lib.hid (O6.mono (b2 := tb + 1) TX.out.tb_lt)
      have VY := Lib.hid (VX.out.then U6 (fun y hy hlt => by simp at hy; have := HTB.out; omega))
      have TY := Lib.hid T6
      clear OX TX VX U6 O6 T6
      obtain ⟨q, hq⟩ : ∃ q, q = p.length := ⟨_, rfl⟩
      rw [← hq] at hpl OP ⊢
      have HQ := Lib.hid hq
      clear hq
      by_cases hlt : n + q < 400
      · have d1 : decide ((n : Int) + (q : Int) < 400) = true := decide_eq_true (by omega)
        have hsz := TY.out.tb_lt
        have HNN := HN.out
        subst HNN
        have HQQ := HQ.out
        subst HQQ
        go_wp2_with (at_builtin; refine L_app (.tmp 34) (.tmp 35) rfl (by kernel_rfl) (tb + 1) _ l rfl OY.out _ _ _ p rfl rfl OP.out.nat (by omega) hsz ?_)
        intro v' w7 O7 u7
        have V7 := Lib.hid (VY.out.then u7 (fun g hg hlt => by have := OY.out.lt g hg; have := HTB.out; omega))
        have T7 := Lib.hid (TY.out.upd u7 (fun g hg => by have := OY.out.lt g hg; omega))
        obtain ⟨B7, c7, rfl, hc1, hc2, hn7, hb7⟩ := O7.words
        have O7' := Lib.hid O7
        have H7 := Lib.hid (lt_app HL.out hp)
        have hl7 : (l ++ p).length < 400 := by rw [List.length_append]; omega
        clear hn7 hb7 hc1 hc2 u7 O7 OY OP VY TY hsz HL hp
        generalize l ++ p = R2 at O7' H7 hl7 ⊢
        obtain ⟨n2, hn2⟩ : ∃ n2, n2 = R2.length := ⟨_, rfl⟩
        rw [← hn2] at O7' hl7 ⊢
        have HN2 := Lib.hid hn2.symm
        clear hn2
        go_wp2_with (fail)
        go_roundg m
        case measure => omega
        case rel => exact ⟨m, B7, c7, R2, a6, n2, by go_num, by omega, rfl, rfl, hl7, HN2, O7', H7, T7, V7⟩
      · have d1 : decide ((n : Int) + (q : Int) < 400) = false := decide_eq_false (by omega)
        go_wp2_with (fail)
        go_roundg m
        case measure => omega
        case rel => exact ⟨m, B, cap, l, a6, n, by go_num, by omega, rfl, rfl, hn, HN, OY, HL, TY, VY⟩
end Go.Proofs.YtmdjhahafjlebaaGreatDoor
