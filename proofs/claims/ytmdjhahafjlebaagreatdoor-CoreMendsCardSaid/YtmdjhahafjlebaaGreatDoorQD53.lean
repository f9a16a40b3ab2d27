/- Tapes: rows of instructions. -/
import Derived.Test.YtmdjhahafjlebaaGreatDoorQD51
import Derived.Test.YtmdjhahafjlebaaGreatDoorQD52
import Derived.Test.YtmdjhahafjlebaaGreatDoorQD48
import Derived.Test.YtmdjhahafjlebaaGreatDoorQD13
import Derived.Test.YtmdjhahafjlebaaGreatDoorQD12
import Derived.Test.YtmdjhahafjlebaaGreatDoorCards
import Derived.Test.YtmdjhahafjlebaaGreatDoorTie
import Derived.Test.YtmdjhahafjlebaaGreatDoorQD03
import Derived.Deep.DeepHandedRow
import Derived.Lib.LaidTab
namespace Go.Proofs.YtmdjhahafjlebaaGreatDoor
open Go.RowKit Go.Dio
set_option linter.unusedSimpArgs false
set_option linter.unusedVariables false

theorem Image_calls (A : Option Addr) (L : List Int) (c : Nat) (w : World) (hA : IntsAt w A L) (hlt : ∀ b o s, A = some ⟨b, o, s⟩ → b < w.heap.size) (hsm : L.length ≤ 9223372036854775807)
    (hwf : ∀ x ∈ L, -9223372036854775808 ≤ x ∧ x ≤ 9223372036854775807) :
    Calls Tryz.prog 8 #[.slice A L.length c] w fun e w' => RowR 776 w e w' := by
  have I := Lib.hid (image_calls A L c 14 w hA hlt hsm hwf (by decide) (by decide))
  clear hA hlt hsm hwf
  generalize L.length = N at I ⊢
  go_enter Tryz.func8, Tryz.ntmps8
  go_wp2_with (fail)
  refine I.out.mono ?_
  rintro e w1 ⟨B, cap, l, rfl, O, hl, hK, U⟩
  go_wp2_with (fail)
  go_ret
  exact ⟨B, cap, l, rfl, O, hl, hK, U⟩

theorem IEnc_calls (i : InstV) (h : OkI i) (z : World) :
    Calls Tryz.prog 29 #[.agg i.arr] z fun e z' => ∃ (n : Nat) (b : Bool), n < 2 ^ 32 ∧ e = .returned (.tuple #[.int .u32 (n : Int), .bool b]) ∧ Upd [] z z' := by
  obtain ⟨op, rd, r1, r2, imm⟩ := i
  obtain ⟨h0, h1, h2, h3, h4⟩ := h
  dsimp only at h0 h1 h2 h3 h4
  obtain ⟨o, rfl⟩ : ∃ o, op = o + 1 := ⟨op - 1, by omega⟩
  refine (enc_calls o rd r1 r2 imm z (by omega) h2 h3 h4).mono ?_
  rintro e z' ⟨rfl, u⟩
  exact ⟨_, _, encP_lt (o + 1) rd r1 r2 imm (by omega) (by omega) h2 h3 h4, rfl, u⟩
set_option maxHeartbeats 8000000 in
theorem Raw_calls (A : Option Addr) (L : List Int) (c n : Nat) (w : World) (hA : IntsAt w A L) (hlt : ∀ b o s, A = some ⟨b, o, s⟩ → b < w.heap.size) (hsm : L.length ≤ 9223372036854775807)
    (hwf : ∀ x ∈ L, -9223372036854775808 ≤ x ∧ x ≤ 9223372036854775807) (hn : n ≤ 100) :
    Calls Tryz.prog 9 #[.slice A L.length c, .int .i64 (n : Int)] w fun e w' => RowR n w e w' := by
  have T0 : Hid (TapeAt w.heap.size A L c 0 (w.alloc (.cells #[.slice A L.length c, .int .i64 0] 63))) := Lib.hid ⟨hl1 _ _, hA.of_upd ((Upd.refl _ _).alloc _), hlt, by omega, hsm, hwf⟩
  have U0 := Lib.hid ((Upd.refl [] w).alloc (.cells #[.slice A L.length c, .int .i64 0] 63))
  clear hA hlt hsm hwf
  obtain ⟨N, hN⟩ : ∃ N, N = L.length := ⟨_, rfl⟩
  rw [← hN] at T0 U0 ⊢
  have HNL := Lib.hid hN
  clear hN
  go_enter Tryz.func9, Tryz.ntmps9
  go_upto_region 2 with (fail)
  obtain ⟨tb, htb⟩ : ∃ tb, tb = w.heap.size := ⟨_, rfl⟩
  rw [← htb] at T0 ⊢
  have hs1 : (w.alloc (.cells #[.slice A N c, .int .i64 0] 63)).heap.size = tb + 1 := by rw [htb]; simp
  generalize w.alloc (.cells #[.slice A N c, .int .i64 0] 63) = W1 at T0 U0 hs1 ⊢
  have HTB := Lib.hid htb
  clear htb
  have T1 : Hid (TapeAt tb A L c 0 W1) := T0
  clear T0
  go_wp2_with (fail)
  go_loopg [6, 7] n (fun g v6 v7 wl => ∃ (k : Nat) (B : Option Addr) (cap : Nat) (l : List Nat) (a m : Nat), v7 = .int .i64 (k : Int) ∧ k ≤ n ∧ g = n - k ∧ v6 = .slice B m cap ∧ m ≤ k ∧ Hid (l.length = m) ∧ Hid (Ow (tb + 1) wl (.slice B m cap) l) ∧ Hid (∀ y ∈ l, y < 2 ^ 32) ∧ Hid (TapeAt tb A L c a wl) ∧ Hid (Upd [] w wl))
  case atStart => exact ⟨0, none, 0, [], 0, 0, rfl, by omega, rfl, rfl, by omega, Lib.hid rfl, Lib.hid (World.ownsRow_nil _ _ _ _), Lib.hid (by simp), T1, U0⟩
  case round =>
    clear T1 U0
    obtain ⟨k, B, cap, l, a, m, rfl, hk, hg, rfl, hm, HN, OX, HL, TX, VX⟩ := hrel
    have c1 : wr.cell? ⟨tb, 1, none⟩ = some (.int .i64 (a : Int)) := by rw [cells_of TX.out.cell]; rfl
    by_cases hdone : k < n ∧ a < N
    · obtain ⟨hkn, haN⟩ := hdone
      have d1 : decide ((k : Int) < (n : Int)) = true := decide_eq_true (by omega)
      have d2 : decide ((a : Int) < (N : Int)) = true := decide_eq_true (by omega)
      go_wp2_with (fail)
      clear c1 d1 d2 haN
      refine (Next_calls _ _ _ _ _ 4 _ TX.out (by decide) (by decide)).mono ?_
      rintro e w2 ⟨r2, a2, hr2, rfl, T2, U2⟩
      have OY := Lib.hid (OX.out.upd U2 (fun g hg => by simp at hg; omega))
      have VY := Lib.hid (VX.out.then U2 (fun y hy hlt => by simp at hy; have := HTB.out; omega))
      have TY := Lib.hid T2
      clear OX TX VX U2 T2
      by_cases h0 : r2 = 0
      · subst h0
        go_wp2_with (fail)
        refine (Word_calls _ _ _ _ _ _ TY.out).mono ?_
        rintro e w3 ⟨x, a3, hx, rfl, T3, U3⟩
        have OX := Lib.hid (OY.out.upd U3 (fun g hg => by simp at hg; omega))
        have VX := Lib.hid (VY.out.then U3 (fun y hy hlt => by simp at hy; have := HTB.out; omega))
        have TX := Lib.hid T3
        clear OY TY VY U3 T3
        have VA := Lib.hid (VX.out.alloc (.cells (nums .u32 [x]) 36))
        have TA := Lib.hid (TX.out.upd ((Upd.refl [] w3).alloc (.cells (nums .u32 [x]) 36)) (fun g hg => by simp at hg))
        have OA := Lib.hid (OX.out.upd ((Upd.refl [] w3).alloc (.cells (nums .u32 [x]) 36)) (fun g hg => by simp at hg))
        have hsz := TA.out.tb_lt
        have HNN := HN.out
        subst HNN
        clear OX VX TX
        go_wp2_with (at_builtin; refine L_app (.tmp 30) (.tmp 33) rfl (by kernel_rfl) (tb + 1) _ l rfl OA.out _ _ _ [x] rfl rfl (numsAt_new w3 .u32 [x] 36) (by simp only [List.length_cons, List.length_nil]; omega) hsz ?_)
        intro v' w9 O9 u9
        have V9 := Lib.hid (VA.out.then u9 (fun g hg hlt => by have := OA.out.lt g hg; have := HTB.out; omega))
        have T9 := Lib.hid (TA.out.upd u9 (fun g hg => by have := OA.out.lt g hg; omega))
        have H9 := Lib.hid (lt_app HL.out (lt_cons (l := []) hx (by simp)))
        have hl9 : (l ++ [x]).length ≤ k + 1 := by rw [List.length_append]; simp only [List.length_cons, List.length_nil]; omega
        obtain ⟨B9, c9, rfl, hc1, hc2, hn9, hb9⟩ := O9.words
        have O9' := Lib.hid O9
        clear hc1 hc2 hn9 hb9 O9 u9 VA TA OA hsz HL hx
        generalize l ++ [x] = R2 at O9' H9 hl9 ⊢
        obtain ⟨n2, hn2⟩ : ∃ n2, n2 = R2.length := ⟨_, rfl⟩
        rw [← hn2] at O9' hl9 ⊢
        have HN2 := Lib.hid hn2.symm
        clear hn2
        go_wp2_with (fail)
        go_roundg (n - (k + 1))
        case measure => omega
        case rel => exact ⟨k + 1, B9, c9, R2, _, n2, by go_num, by omega, rfl, rfl, hl9, HN2, O9', H9, T9, V9⟩
      · have d0 : ((r2 : Int) == 0) = false := (cast_ne_b h0).1
        clear h0
        go_wp2_with (fail)
        refine (Inst_calls _ _ _ _ _ _ TY.out).mono ?_
        rintro e w3 ⟨i, a3, hi, rfl, T3, U3⟩
        go_wp2_with (fail)
        refine (IEnc_calls i hi _).mono ?_
        rintro e w4 ⟨x, b, hx, rfl, u4⟩
        have OX := Lib.hid ((OY.out.upd U3 (fun g hg => by simp at hg; omega)).upd u4 (fun g hg => by simp at hg))
        have VX := Lib.hid ((VY.out.then U3 (fun y hy hlt => by simp at hy; have := HTB.out; omega)).trans u4)
        have TX := Lib.hid (T3.upd u4 (fun g hg => by simp at hg))
        clear OY TY VY U3 T3 u4
        have VA := Lib.hid (VX.out.alloc (.cells (nums .u32 [x]) 36))
        have TA := Lib.hid (TX.out.upd ((Upd.refl [] w4).alloc (.cells (nums .u32 [x]) 36)) (fun g hg => by simp at hg))
        have OA := Lib.hid (OX.out.upd ((Upd.refl [] w4).alloc (.cells (nums .u32 [x]) 36)) (fun g hg => by simp at hg))
        have hsz := TA.out.tb_lt
        have HNN := HN.out
        subst HNN
        clear OX VX TX
        go_wp2_with (at_builtin; refine L_app (.tmp 41) (.tmp 43) rfl (by kernel_rfl) (tb + 1) _ l rfl OA.out _ _ _ [x] rfl rfl (numsAt_new w4 .u32 [x] 36) (by simp only [List.length_cons, List.length_nil]; omega) hsz ?_)
        intro v' w9 O9 u9
        have V9 := Lib.hid (VA.out.then u9 (fun g hg hlt => by have := OA.out.lt g hg; have := HTB.out; omega))
        have T9 := Lib.hid (TA.out.upd u9 (fun g hg => by have := OA.out.lt g hg; omega))
        have H9 := Lib.hid (lt_app HL.out (lt_cons (l := []) hx (by simp)))
        have hl9 : (l ++ [x]).length ≤ k + 1 := by rw [List.length_append]; simp only [List.length_cons, List.length_nil]; omega
        obtain ⟨B9, c9, rfl, hc1, hc2, hn9, hb9⟩ := O9.words
        have O9' := Lib.hid O9
        clear hc1 hc2 hn9 hb9 O9 u9 VA TA OA hsz HL hx
        generalize l ++ [x] = R2 at O9' H9 hl9 ⊢
        obtain ⟨n2, hn2⟩ : ∃ n2, n2 = R2.length := ⟨_, rfl⟩
        rw [← hn2] at O9' hl9 ⊢
        have HN2 := Lib.hid hn2.symm
        clear hn2
        go_wp2_with (fail)
        go_roundg (n - (k + 1))
        case measure => omega
        case rel => exact ⟨k + 1, B9, c9, R2, _, n2, by go_num, by omega, rfl, rfl, hl9, HN2, O9', H9, T9, V9⟩
    · have key : ∀ z : Bool, z = z := fun z => rfl
      clear key
      have hfin : RowR n w (.returned (.slice B m cap)) wr := by
        have h1 := HN.out
        subst h1
        exact ⟨B, cap, l, rfl, OX.out.mono (by have := HTB.out; omega), HL.out, by omega, VX.out⟩
      have HF := Lib.hid hfin
      clear hfin OX HL TX VX HN
      by_cases hkn : k < n
      · have d1 : decide ((k : Int) < (n : Int)) = true := decide_eq_true (by omega)
        have haN : N ≤ a := by omega
        have d2 : decide ((a : Int) < (N : Int)) = false := decide_eq_false (by omega)
        clear hdone
        go_wp2_with (fail)
        go_ret
        exact HF.out
      · have d1 : decide ((k : Int) < (n : Int)) = false := decide_eq_false (by omega)
        clear hdone
        go_wp2_with (fail)
        go_ret
        exact HF.out
end Go.Proofs.YtmdjhahafjlebaaGreatDoor

namespace Go.Proofs.YtmdjhahafjlebaaGreatDoor
open Go.RowKit Go.Dio
set_option linter.unusedSimpArgs false
set_option linter.unusedVariables false

theorem z32 : (List.replicate 32 0 : List Nat).tail.map enc = List.replicate 31 0 := by
  rw [show (List.replicate 32 0 : List Nat).tail = List.replicate 31 0 from rfl, enc_rep]
/-- Reset to zeros. -/
theorem CO.reset0 {zz w : World} {k : CoB} {s : CoS} (h : CO zz k s w) (p : Nat) (R C : List Nat) (g : Gd p R C) :
    Calls Tryz.prog 19 #[.pointer (some ⟨k.cb, 0, none⟩), .int .u32 (p : Int), .agg (nums .u32 R), .agg (nums .u32 C)] w fun e z' => e = .returned (.tuple #[]) ∧ CO zz k (gold p R C z4 s.ff s.fa s.cf s.ca) z' ∧ Upd k.fp w z' :=
  (Reset_calls k s p R C w h.core g.pc g.len g.clen g.rlt g.clt).mono fun e z' ⟨h1, h2⟩ => ⟨h1, h.cor h2, h2.upd⟩
/-- A cycle from a beginning is not sick. -/
theorem first_ok {p : Nat} {R C m : List Nat} (g : Gd p R C) (ff fa cf ca : Nat) (ha : fa < 31) (hc : ca < 6) : (coCycle memoLd (gold p R C z4 ff fa cf ca) m).2.1 ≤ 1 := by
  cases hb : (fetchP p).2
  · rw [gold_fetch g ff fa cf ca hb ha hc]; exact Nat.zero_le _
  · rw [gold_trap g ff fa cf ca hb ha hc]; exact Nat.le_refl _
theorem flip_f (s : CoS) (c : Int) : (s.flip c).ff = s.ff ∧ (s.flip c).cf = s.cf := by
  unfold CoS.flip
  split
  · exact ⟨rfl, rfl⟩
  split
  · exact ⟨rfl, rfl⟩
  split <;> exact ⟨rfl, rfl⟩
theorem Short_calls (A : Option Addr) (L : List Int) (c : Nat) (w : World) (hA : IntsAt w A L) (hlt : ∀ b o s, A = some ⟨b, o, s⟩ → b < w.heap.size) (hsm : L.length ≤ 9223372036854775807)
    (hwf : ∀ x ∈ L, -9223372036854775808 ≤ x ∧ x ≤ 9223372036854775807) :
    Calls Tryz.prog 17 #[.slice A L.length c] w fun e w' => RowR 776 w e w' := by
  have I := Lib.hid (image_calls A L c 5 w hA hlt hsm hwf (by decide) (by decide))
  clear hA hlt hsm hwf
  generalize L.length = N at I ⊢
  go_enter Tryz.func17, Tryz.ntmps17
  go_wp2_with (fail)
  refine I.out.mono ?_
  rintro e w1 ⟨B, cap, l, rfl, O, hl, hK, U⟩
  go_wp2_with (fail)
  go_ret
  exact ⟨B, cap, l, rfl, O, hl, hK, U⟩
theorem ints_upd {w w' : World} {S : List Nat} {A : Option Addr} {l : List Int} (h : IntsAt w A l) (u : Upd S w w') (hS : ∀ b o s, A = some ⟨b, o, s⟩ → b ∉ S) : IntsAt w' A l := fun h0 => by
  obtain ⟨b, o, hA, hb, hc⟩ := h h0
  exact ⟨b, o, hA, Nat.lt_of_lt_of_le hb u.size, fun i hi => by rw [← hc i hi]; exact World.cell?_of_block (w := w) (u.block b hb (hS b o none hA))⟩
set_option maxRecDepth 20000 in
set_option maxHeartbeats 16000000 in
theorem mends18 (A A2 : Option Addr) (L L2 : List Int) (c c2 : Nat) (zz : World) (hT : Tz zz) (hA : IntsAt zz A L) (hlt : ∀ b o s, A = some ⟨b, o, s⟩ → b < zz.heap.size) (hsm : L.length ≤ 9223372036854775807)
    (hwf : ∀ x ∈ L, -9223372036854775808 ≤ x ∧ x ≤ 9223372036854775807) (hA2 : IntsAt zz A2 L2) (hsm2 : L2.length ≤ 9223372036854775807)
    (hwf2 : ∀ x ∈ L2, -9223372036854775808 ≤ x ∧ x ≤ 9223372036854775807) :
    Calls Tryz.prog 6 #[.slice A L.length c, .slice A2 L2.length c2] zz fun e z' => e = .returned (.bool true) ∧ Upd [] zz z' := by
  have NW := Lib.hid (CO.new zz zz (Upd.refl _ _) hT)
  have KN := Lib.hid (fun w (u : Upd [] zz w) => known18 w (hT.of_upd u (by simp)))
  have I := Lib.hid (fun w1 (u : Upd [] zz w1) => Short_calls A L c w1 (hA.of_upd u) (fun b o s h => Nat.lt_of_lt_of_le (hlt b o s h) u.size) hsm hwf)
  have X2 := Lib.hid hA2
  have W2 : Hid (∀ i, i < L2.length → -9223372036854775808 ≤ nthZ L2 i ∧ nthZ L2 i ≤ 9223372036854775807) := Lib.hid (fun i hi => hwf2 _ (by unfold nthZ; rw [show L2.getD i 0 = L2[i] by simp [List.getD, hi]]; exact List.getElem_mem _))
  generalize L.length = N at I ⊢
  obtain ⟨N2, hN2⟩ : ∃ N2, N2 = L2.length := ⟨_, rfl⟩
  rw [← hN2] at W2 hsm2 ⊢
  have HN2 := Lib.hid hN2
  clear hT hA hlt hsm hwf hA2 hwf2 hN2
  go_enter Tryz.func6, Tryz.ntmps6
  go_wp2_with (fail)
  refine NW.out.mono ?_
  rintro e w1 ⟨k, rfl, c1, u1, ho1⟩
  have C1 := Lib.hid c1
  have KO := Lib.hid (fun x hx => ho1 x hx)
  clear c1 u1 ho1 NW
  go_wp2_with (fail)
  refine (CBits_calls k _ _ C1.out.core).mono ?_
  rintro e w2 ⟨rfl, u2⟩
  have C2 := Lib.hid (C1.out.near u2)
  clear u2 C1
  go_wp2_with (fail)
  refine (I.out _ C2.out.upd).mono ?_
  rintro e w3 ⟨B3, cap3, l3, rfl, O3, hx3, hl3, u3⟩
  have C3 := Lib.hid (C2.out.near u3)
  have ME := Lib.hid (MO.new C3.out B3 l3 l3.length cap3 rfl O3.nat (by omega) hx3)
  clear O3 hx3 u3 I C2
  generalize l3.length = n3 at *
  go_wp2_with (fail)
  refine ME.out.mono ?_
  rintro e w4 ⟨mb, rfl, c4, m4, u4⟩
  have UA := (Upd.refl [] w4).alloc (.cells #[.slice (some ⟨mb, 0, none⟩) 1024 1024] 33)
  have MB := Lib.hid (Go.heap_alloc_last w4 (.cells #[.slice (some ⟨mb, 0, none⟩) 1024 1024] 33))
  have HK := Lib.hid c4.core.lt
  have C5 := Lib.hid (c4.near UA)
  have M5 := Lib.hid (m4.near UA)
  clear UA c4 m4 u4 ME C3
  go_wp2_with (fail)
  generalize hW6 : w4.alloc (.cells #[.slice (some ⟨mb, 0, none⟩) 1024 1024] 33) = w6 at *
  clear hW6
  generalize w4.heap.size = b7 at *
  have P0 : Hid (∃ ff fa cf ca m, CO zz k (gold 0 (List.replicate 32 0) (List.replicate 5 0) z4 ff fa cf ca) w6 ∧ MO zz k mb m w6 ∧ ff ≤ 20 * 0 ∧ cf ≤ 20 * 0) := Lib.hid ⟨0, 0, 0, 0, _, C5.out, M5.out, Nat.le_refl _, Nat.le_refl _⟩
  clear C5 M5
  obtain ⟨R0, hR⟩ : ∃ R0, R0 = List.replicate 32 0 := ⟨_, rfl⟩
  obtain ⟨C0, hC⟩ : ∃ C0, C0 = List.replicate 5 0 := ⟨_, rfl⟩
  have G0 := Lib.hid (show Gd 0 R0 C0 by rw [hR, hC]; exact Gd.new)
  rw [← hR, ← hC] at P0
  have HR := Lib.hid hR
  have HC := Lib.hid hC
  clear hR hC
  go_loopw [8] (fun v8 wl => ∃ i : Nat, v8 = .int .i64 (i : Int) ∧ i ≤ 12 ∧ Hid (∃ ff fa cf ca m, CO zz k (gold 0 R0 C0 z4 ff fa cf ca) wl ∧ MO zz k mb m wl ∧ ff ≤ 20 * i ∧ cf ≤ 20 * i) ∧ Hid (wl.heap[b7]? = some (.cells #[.slice (some ⟨mb, 0, none⟩) 1024 1024] 33 (0, 0)))) (fun v8 _ => 12 - (intOf v8).toNat)
  case atStart => exact ⟨0, rfl, by omega, P0, MB⟩
  case round =>
    obtain ⟨i, rfl, hi, HX, MBl⟩ := hrel
    clear P0 MB
    obtain ⟨ff, fa, cf, ca, m, co, mo, hff, hcf⟩ := HX.out
    have CW := Lib.hid co
    have MW := Lib.hid mo
    clear HX co mo
    rcases Nat.lt_or_ge i N2 with hlt | hge
    · have dl : decide ((i : Int) < (N2 : Int)) = true := decide_eq_true (by omega)
      rcases Nat.lt_or_ge i 12 with h12 | h12
      · have d12 : decide ((i : Int) < 12) = true := decide_eq_true (by omega)
        have hx := W2.out i hlt
        obtain ⟨b2, o2, hA2, hb2, hc2⟩ := X2.out (by rw [← HN2.out]; omega)
        subst hA2
        have cx : wr.cell? ⟨b2, o2 + i, none⟩ = some (.int .i64 (nthZ L2 i)) := by
          rw [World.cell?_of_block (w := zz) (CW.out.upd.block b2 hb2 (by simp))]; exact hc2 i (by rw [← HN2.out]; exact hlt)
        clear hb2 hc2
        generalize nthZ L2 i = x at *
        have mx := max2_nat .i64 1574 0 1574 (by decide)
        have wi := Within_calls x 0 1574 wr (by decide) (by decide) (by decide) hx
        have hy := within_range (n := x) (show (0 : Int) ≤ 1574 by decide)
        generalize within x 0 1574 = y at *
        have WI := Lib.hid wi
        have fl := CFlip_calls k _ y wr CW.out.core (by omega) (by omega)
        rw [show CoS.flipOk y = true from decide_eq_true (by omega)] at fl
        have hf2 := flip_f (gold 0 R0 C0 z4 ff fa cf ca) y
        have hf3 : ((gold 0 R0 C0 z4 ff fa cf ca).flip y).ff ≤ 20 * i ∧ ((gold 0 R0 C0 z4 ff fa cf ca).flip y).cf ≤ 20 * i := by
          rw [hf2.1, hf2.2]; exact ⟨hff, hcf⟩
        generalize (gold 0 R0 C0 z4 ff fa cf ca).flip y = s1 at *
        have FL := Lib.hid fl
        clear wi fl hf2 hff hcf hx
        go_wp2_with (fail)
        refine WI.out.mono ?_
        rintro e w7 ⟨rfl, rfl⟩
        go_wp2_with (fail)
        refine FL.out.mono ?_
        rintro e w8 ⟨rfl, r⟩
        have C8 := Lib.hid (CW.out.cor r)
        have M8 := Lib.hid (MW.out.cor r)
        have MB8 := Lib.hid (r.upd.keep MBl.out (fun hm => by have := HK.out _ hm; omega))
        have CY := Lib.hid (C8.out.cycle M8.out (by omega) (by omega))
        have hcy := cyc_f memoLd s1 m
        clear r CW MW MBl WI FL cx mx
        generalize coCycle memoLd s1 m = X at *
        obtain ⟨r1, wh1, s2, m2⟩ := X
        dsimp only at CY hcy
        go_wp2_with (first
          | go_skip
          | ((with_reducible refine at_op 41 ?_); refine L_load 33 (.tmp 7) rfl (by kernel_rfl) _ _ rfl #[.slice (some ⟨mb, 0, none⟩) 1024 1024] (row_arr MB8.out) Tryz.underlying33 rfl 1 info_memo rfl ?_))
        refine CY.out.mono ?_
        rintro e w9 ⟨rfl, co9, mo9, u9⟩
        have C9 := Lib.hid co9
        have M9 := Lib.hid mo9
        have MB9 := Lib.hid (u9.keep MB8.out (fun hm => by have := HK.out _ hm; omega))
        have rs := C9.out.reset0 0 (List.replicate 32 0) (List.replicate 5 0) Gd.new
        rw [← HR.out, ← HC.out] at rs
        have RS := Lib.hid rs
        rw [HR.out, HC.out] at RS
        clear co9 mo9 u9 C8 M8 MB8 CY rs
        go_wp2_with (fail)
        refine RS.out.mono ?_
        rintro e w10 ⟨rfl, co10, u10⟩
        rw [← HR.out, ← HC.out] at co10
        have hok := co10.core.ok
        have CA := Lib.hid co10
        have MA := Lib.hid (MO.mk (u10.keep M9.out.mem M9.out.hk) M9.out.ok M9.out.hk M9.out.own)
        have MBA := Lib.hid (u10.keep MB9.out (fun hm => by have := HK.out _ hm; omega))
        have CZ := Lib.hid (CA.out.cycle MA.out (by show s2.cf < _; omega) (by show s2.ff < _; omega))
        have hw1 := first_ok (m := m2) G0.out s2.ff s2.fa s2.cf s2.ca hok.fa hok.ca
        have hcz := cyc_f memoLd (gold 0 R0 C0 z4 s2.ff s2.fa s2.cf s2.ca) m2
        have hcz2 : (coCycle memoLd (gold 0 R0 C0 z4 s2.ff s2.fa s2.cf s2.ca) m2).2.2.1.cf ≤ s2.cf + 7 ∧ (coCycle memoLd (gold 0 R0 C0 z4 s2.ff s2.fa s2.cf s2.ca) m2).2.2.1.ff ≤ s2.ff + 3 := hcz
        clear co10 u10 C9 M9 MB9 RS hok hcz
        generalize coCycle memoLd (gold 0 R0 C0 z4 s2.ff s2.fa s2.cf s2.ca) m2 = Y at *
        obtain ⟨r2, wh2, s3, m3⟩ := Y
        dsimp only at CZ hcz2 hw1
        have dw : ((wh2 : Int) == 2) = false := by rw [beq_eq_false_iff_ne]; omega
        go_wp2_with (first
          | go_skip
          | ((with_reducible refine at_op 50 ?_); refine L_load 33 (.tmp 7) rfl (by kernel_rfl) _ _ rfl #[.slice (some ⟨mb, 0, none⟩) 1024 1024] (row_arr MBA.out) Tryz.underlying33 rfl 1 info_memo rfl ?_))
        refine CZ.out.mono ?_
        rintro e w11 ⟨rfl, co11, mo11, u11⟩
        have UB := (Upd.refl [] w11).alloc (.cells r2.cells.toArray 38)
        have CB := Lib.hid (co11.near UB)
        have MBx := Lib.hid (mo11.near UB)
        have MBB := Lib.hid (UB.keep (u11.keep MBA.out (fun hm => by have := HK.out _ hm; omega)) (by simp))
        clear co11 mo11 u11 UB CA MA MBA CZ
        generalize hWB : w11.alloc (.cells r2.cells.toArray 38) = wB at *
        have HWB := Lib.hid hWB
        clear hWB
        go_wp2_with (first
          | go_skip
          | ((with_reducible refine at_st 9 ?_); refine L_store_new 38 (.tmp 9) (.tmp 53) rfl (by kernel_rfl) _ r2.cells.toArray rfl rfl 7 info_ret rfl rfl (RetV.one _) ?_; rw [HWB.out]))
        refine (CBits_calls k _ _ CB.out.core).mono ?_
        rintro e w12 ⟨rfl, u12⟩
        have CC := Lib.hid (CB.out.near u12)
        have MC := Lib.hid (MBx.out.near u12)
        have MBC := Lib.hid (u12.keep MBB.out (by simp))
        have rs := CC.out.reset0 0 (List.replicate 32 0) (List.replicate 5 0) Gd.new
        have RS := Lib.hid rs
        clear u12 CB MBx MBB rs
        go_wp2_with (fail)
        refine RS.out.mono ?_
        rintro e w13 ⟨rfl, co13, u13⟩
        rw [← HR.out, ← HC.out] at co13
        have PF : Hid (∃ ff fa cf ca m, CO zz k (gold 0 R0 C0 z4 ff fa cf ca) w13 ∧ MO zz k mb m w13 ∧ ff ≤ 20 * (i + 1) ∧ cf ≤ 20 * (i + 1)) := Lib.hid ⟨_, _, _, _, m3, co13, MO.mk (u13.keep MC.out.mem MC.out.hk) MC.out.ok MC.out.hk MC.out.own, by omega, by omega⟩
        have MBD := Lib.hid (u13.keep MBC.out (fun hm => by have := HK.out _ hm; omega))
        clear co13 u13 CC MC MBC RS
        go_wp2_with (fail)
        go_roundw
        case measure => simp [intOf]; omega
        case rel => exact ⟨i + 1, by go_num, by omega, PF, MBD⟩
      · have d12 : decide ((i : Int) < 12) = false := decide_eq_false (by omega)
        go_wp2_with (fail)
        refine (KN.out _ CW.out.upd).mono ?_
        rintro e w7 ⟨rfl, u7⟩
        have U7 := Lib.hid (CW.out.upd.trans u7)
        clear u7
        go_wp2_with (fail)
        go_ret
        exact ⟨rfl, U7.out⟩
    · have dl : decide ((i : Int) < (N2 : Int)) = false := decide_eq_false (by omega)
      go_wp2_with (fail)
      refine (KN.out _ CW.out.upd).mono ?_
      rintro e w7 ⟨rfl, u7⟩
      have U7 := Lib.hid (CW.out.upd.trans u7)
      clear u7
      go_wp2_with (fail)
      go_ret
      exact ⟨rfl, U7.out⟩
theorem mends18b (A A2 : Option Addr) (L L2 : List Int) (c c2 : Nat) (zz : World) (hT : Tz zz) (hA : IntsAt zz A L) (hlt : ∀ b o s, A = some ⟨b, o, s⟩ → b < zz.heap.size) (hsm : L.length ≤ 9223372036854775807)
    (hwf : ∀ x ∈ L, -9223372036854775808 ≤ x ∧ x ≤ 9223372036854775807) (hA2 : IntsAt zz A2 L2) (hsm2 : L2.length ≤ 9223372036854775807)
    (hwf2 : ∀ x ∈ L2, -9223372036854775808 ≤ x ∧ x ≤ 9223372036854775807) :
    Calls Tryz.prog 6 #[.slice A L.length c, .slice A2 L2.length c2] zz fun e z' => e = .returned (.bool true) ∧ Below zz.heap.size zz z' :=
  (mends18 A A2 L L2 c c2 zz hT hA hlt hsm hwf hA2 hsm2 hwf2).mono fun e z' ⟨h, u⟩ => ⟨h, u.below⟩
end Go.Proofs.YtmdjhahafjlebaaGreatDoor

namespace Go.Proofs.YtmdjhahafjlebaaGreatDoor.dfr
open Go.ChangeShapes Go.WideShapes Go.ChangeAt Go.RowKit Go.Dio

theorem gTab : Tryz.prog.globalNamed "math/bits.deBruijn64tab" = some 0 := by kernel_rfl
theorem gTabType : (Tryz.prog.globals[0]?).map (·.type) = some 170 := by kernel_rfl
theorem cellsTab : Tryz.prog.cellsOf 170 = 64 := by kernel_rfl
theorem cellsOne : Tryz.prog.cellsOf 5 = 1 := by kernel_rfl

theorem table {W : World} (h : laidMetH Tryz.prog [("math/bits.deBruijn64tab", Rows.laid_math_bits_deBruijn64tab)] W) : Tz W := fun j hj => by
  have ht : Lib.TabIs Tryz.prog W "math/bits.deBruijn64tab" .u8 (Lib.deBruijn64tab.map Int.ofNat) :=
    Lib.tabIs_of_head (rest := []) gTab gTabType Tryz.underlying170 Tryz.underlying5 cellsOne cellsTab h
  have hc := ht.cell gTab j (by rw [List.length_map]; exact hj)
  rw [hc]
  have hl : j < Lib.deBruijn64tab.length := hj
  simp [List.getD, hl]

noncomputable def laidWorld (os : Os) : World :=
  { World.holding Tryz.prog os ⟨#[], #[], []⟩ with heap := (World.holding Tryz.prog os ⟨#[], #[], []⟩).heap.modify 0 fun
      | .cells _ t frozen => .cells (nums .u8 Lib.deBruijn64tab) t frozen
      | o => o }

theorem nat_u32 {x : Int} (h : (Lit.int .u32 x).wf = true) : ∃ n : Nat, x = (n : Int) ∧ n < 2 ^ 32 := by
  have hx : 0 ≤ x ∧ x ≤ 4294967295 := by simpa [Lit.wf, IntKind.min, IntKind.max, IntKind.signed, IntKind.bits] using h
  exact ⟨x.toNat, by omega, by omega⟩
theorem nat_u64 {x : Int} (h : (Lit.int .u64 x).wf = true) : ∃ n : Nat, x = (n : Int) ∧ n < 2 ^ 64 := by
  have hx : 0 ≤ x ∧ x ≤ 18446744073709551615 := by simpa [Lit.wf, IntKind.min, IntKind.max, IntKind.signed, IntKind.bits] using h
  exact ⟨x.toNat, by omega, by omega⟩
end Go.Proofs.YtmdjhahafjlebaaGreatDoor.dfr

namespace Go.Proofs.YtmdjhahafjlebaaGreatDoor.cCoreMends
open Go.ChangeShapes Go.WideShapes Go.ChangeAt Go.RowKit Go.Dio
open Go.ChangeMaps (open_string shut_string)
set_option linter.unusedVariables false
set_option maxRecDepth 100000

theorem contract (H : Type) (enc : TypeId × Value → H) (W : World) (base : Nat) (args : Array Value) (ds gs : List (DataW H)) (before : List MemPlace)
    (hval : ∀ (j : Nat) t v, Tryz.f6.params[j]? = some t → args[j]? = some v → Value.okWide Tryz.prog W .any base t v)
    (hW : DataW.Whole enc Tryz.prog Tryz.f6.params.toList Rows.coreMendsSpec.vars false W args.toList ds gs before) (hL : laidMetH Tryz.prog Rows.coreMendsRow.laid W) :
    Calls Tryz.prog 6 args W fun e W' => ∃ v, e = .returned v ∧ Rows.coreMendsSpec.post enc Tryz.prog Tryz.f6 false true false false W args v W' := by
  have hT : Tz W := dfr.table hL
  have hW' := hW
  obtain ⟨p, q, hA0, hV, rfl, hfz, hnd⟩ := hW
  have hA : DataW.TrodAll enc Tryz.prog W 0 (fun _ => true) true Tryz.f6.params.toList args.toList ds p := hA0
  rw [Tryz.params6] at hA hval
  obtain ⟨v0, vs0, d0, ds0, p0, q0, hargs, rfl, rfl, h0, r0⟩ := trodAll_cons hA
  obtain ⟨v1, vs1, d1, ds1, p1, q1, rfl, rfl, rfl, h1, r1⟩ := trodAll_cons r0
  obtain ⟨rfl, rfl, rfl⟩ := trodAll_nil r1
  obtain rfl : args = #[v0, v1] := by cases args; simp_all
  obtain ⟨rfl, rfl⟩ := trodVars_none hV
  obtain ⟨A0, n0, c0, rfl⟩ := okWide_slice Tryz.underlying22 (hval 0 22 v0 rfl rfl)
  obtain ⟨l0, L0, rfl, c0le, m0, k0, b0⟩ := fr.open_ints' Tryz.underlying22 Tryz.underlying3 (by kernel_rfl) h0
  obtain ⟨A1, n1, c1, rfl⟩ := okWide_slice Tryz.underlying22 (hval 1 22 v1 rfl rfl)
  obtain ⟨l1, L1, rfl, c1le, m1, k1, b1⟩ := fr.open_ints' Tryz.underlying22 Tryz.underlying3 (by kernel_rfl) h1
  clear hA0
  refine (mends18b A0 A1 l0 l1 c0 c1 W hT L0 (okWide_ltw Tryz.underlying22 (hval 0 22 _ rfl rfl)) (by omega) (wf_rangew k0) L1 (by omega) (wf_rangew k1)).mono fun e W' ⟨he, bel⟩ => ?_
  subst he
  exact ⟨_, rfl, fr.post_true fr.laidOut (by kernel_rfl) rfl hW' bel 4 rfl Tryz.underlying4 rfl rfl rfl⟩

theorem laid_met (os : Os) : laidMet Tryz.prog Rows.coreMendsRow.laid ((dfr.laidWorld os).forCall (fun _ _ => 0) ⟨#[], #[.slice none 0 0, .slice none 0 0], []⟩).memory :=
  laidMet_of_run' 8 (by kernel_rfl) (by kernel_rfl)
theorem reads (os : Os) {H : Type} (enc : TypeId × Value → H) : ∃ places, DataW.whole enc Tryz.prog ((dfr.laidWorld os).forCall (fun _ _ => 0) ⟨#[], #[.slice none 0 0, .slice none 0 0], []⟩).memory Tryz.f6.params.toList Rows.coreMendsSpec.vars false (#[.slice none 0 0, .slice none 0 0] : Array Value).toList 8 = some ([.nil, .nil], [], places) :=
  ⟨[], by kernel_rfl⟩

set_option maxRecDepth 100000 in
theorem lifted (os : Os) (started : os.Started) (H : Type) (enc : TypeId × Value → H) (F : Stop.Interp) :
    ReturnsInHanded {} Tryz.checked os 6 .any ((OpenSpec.ofChange Rows.coreMendsSpec).preRow enc Tryz.prog Tryz.f6 Rows.coreMendsRow.domain false Rows.coreMendsRow.laid) (((OpenSpec.ofChange Rows.coreMendsSpec).at F).post enc Tryz.prog Tryz.f6 false true false false) := by
  obtain ⟨places, hx⟩ := reads os enc
  refine returnsInHanded_of_row (C := Tryz.checked) (s := OpenSpec.ofChange Rows.coreMendsSpec) fr.own started (by kernel_rfl) Tryz.func6
    (witness_row_at (enc := enc) (C := Tryz.checked) false (dfr.laidWorld os) #[.slice none 0 0, .slice none 0 0] rfl (by kernel_rfl) (by kernel_rfl) (by kernel_rfl)
      (OpenSpec.preRow_of_cond 8 hx (by kernel_rfl) (fun k hk => by cases hk) (by kernel_rfl) (laid_met os))) ?_
  intro W base args ds gs before hval hW _ _ _ hL _ _
  exact contract H enc W base args ds gs before hval hW hL

theorem band {a b : Bool} (h : a = true) (k : b = true) : (a && b) = true := by rw [h, k]; rfl
set_option maxHeartbeats 4000000 in
theorem facts : joinedFacts Tryz.pinned.checked.prog 6 Tryz.f6 (OpenSpec.ofChange Rows.coreMendsSpec).bare Rows.coreMendsRow = true := by
  delta joinedFacts
  repeat' (with_reducible refine band ?_ ?_)
  all_goals as_aux_lemma => kernel_rfl

theorem said : Rows.CoreMendsSaid :=
  OpenClaim.holds_of_cond 6 Tryz.f6 rfl rfl rfl rfl rfl rfl rfl ⟨rfl, rfl, rfl, rfl, rfl⟩ rfl rfl rfl rfl rfl (by kernel_rfl) Tryz.func6 facts
    (of_decide_eq_true (by kernel_rfl)) (by unfold Func.isWrapper; first | (rw [if_pos (by decide +kernel)]; kernel_rfl) | (rw [if_neg (by decide +kernel)]; exact ⟨rfl, rfl⟩))
    (fun os started H enc _ F => by rw [OpenClaim.pre_eq_preRow]; exact lifted os started H enc F)

theorem plain (f : FuncId) (fn : Func) (hf : Tryz.pinned.checked.prog.funcNamed "dioscuri/dioscurilaw18.CoreMends" = some f) (hfn : Tryz.pinned.checked.prog.funcs[f]? = some fn) :
    false = Tryz.pinned.checked.prog.looks [] ∧ ∀ (j : Nat) t, fn.params[j]? = some t → Tryz.pinned.checked.prog.wantsStandIn t = false := by
  obtain rfl : f = 6 := Option.some.inj ((show Tryz.prog.funcNamed "dioscuri/dioscurilaw18.CoreMends" = some 6 by kernel_rfl).symm.trans hf) |>.symm
  obtain rfl : fn = Tryz.f6 := (Option.some.inj (Tryz.func6.symm.trans hfn)).symm
  refine ⟨by kernel_rfl, fun j t ht => ?_⟩
  have hall : (Tryz.f6.params.toList.all fun t => !Tryz.prog.wantsStandIn t) = true := by kernel_rfl
  have hm : t ∈ Tryz.f6.params.toList := by simpa using Array.mem_of_getElem? ht
  have := List.all_eq_true.1 hall t hm
  show Tryz.prog.wantsStandIn t = false
  simpa using this

theorem card : Rows.CoreMendsCardSaid :=
  Claim7.holds_tied_plain_at .later [] _ _ _ _ said (fun _ h => by cases h) (by kernel_rfl) (fun _ h => by cases h) coreMends_row_tie rfl ⟨rfl, rfl⟩ (by kernel_rfl) rfl plain (by kernel_rfl)
#print axioms card
end Go.Proofs.YtmdjhahafjlebaaGreatDoor.cCoreMends
