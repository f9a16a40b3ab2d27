/- Tapes: rows of instructions. -/
import Derived.Test.YtmdjhahafjlebaaGreatDoorQD51
import Derived.Test.YtmdjhahafjlebaaGreatDoorQD52
import Derived.Test.YtmdjhahafjlebaaGreatDoorQD48
import Derived.Test.YtmdjhahafjlebaaGreatDoorQD13
import Derived.Test.YtmdjhahafjlebaaGreatDoorQD12
import Derived.Test.YtmdjhahafjlebaaGreatDoorCards
import Derived.Test.YtmdjhahafjlebaaGreatDoorTie
import Derived.Test.YtmdjhahafjlebaaGreatDoorQD03
import Derived.Deep.DeepHandedRow
import Derived.Lib.LaidTab
namespace Go.Proofs.YtmdjhahafjlebaaGreatDoor
open Go.RowKit Go.Dio
set_option linter.unusedSimpArgs false
set_option linter.unusedVariables false

theorem Image_calls (A : Option Addr) (L : List Int) (c : Nat) (w : World) (hA : IntsAt w A L) (hlt : ∀ b o s, A = some ⟨b, o, s⟩ → b < w.heap.size) (hsm : L.length ≤ 9223372036854775807)
    (hwf : ∀ x ∈ L, -9223372036854775808 ≤ x ∧ x ≤ 9223372036854775807) :
    Calls Tryz.prog 8 #[.slice A L.length c] w fun e w' => RowR 776 w e w' := by
  have I := Lib.hid (image_calls A L c 14 w hA hlt hsm hwf (by decide) (by decide))
  clear hA hlt hsm hwf
  generalize L.length = N at I ⊢
  go_enter Tryz.func8, Tryz.ntmps8
  go_wp2_with (fail)
  refine I.out.mono ?_
  rintro e w1 ⟨B, cap, l, rfl, O, hl, hK, U⟩
  go_wp2_with (fail)
  go_ret
  exact ⟨B, cap, l, rfl, O, hl, hK, U⟩

theorem IEnc_calls (i : InstV) (h : OkI i) (z : World) :
    Calls Tryz.prog 29 #[.agg i.arr] z fun e z' => ∃ (n : Nat) (b : Bool), n < 2 ^ 32 ∧ e = .returned (.tuple #[.int .u32 (n : Int), .bool b]) ∧ Upd [] z z' := by
  obtain ⟨op, rd, r1, r2, imm⟩ := i
  obtain ⟨h0, h1, h2, h3, h4⟩ := h
  dsimp only at h0 h1 h2 h3 h4
  obtain ⟨o, rfl⟩ : ∃ o, op = o + 1 := ⟨op - 1, by omega⟩
  refine (enc_calls o rd r1 r2 imm z (by omega) h2 h3 h4).mono ?_
  rintro e z' ⟨rfl, u⟩
  exact ⟨_, _, encP_lt (o + 1) rd r1 r2 imm (by omega) (by omega) h2 h3 h4, rfl, u⟩
set_option maxHeartbeats 8000000 in
theorem Raw_calls (A : Option Addr) (L : List Int) (c n : Nat) (w : World) (hA : IntsAt w A L) (hlt : ∀ b o s, A = some ⟨b, o, s⟩ → b < w.heap.size) (hsm : L.length ≤ 9223372036854775807)
    (hwf : ∀ x ∈ L, -9223372036854775808 ≤ x ∧ x ≤ 9223372036854775807) (hn : n ≤ 100) :
    Calls Tryz.prog 9 #[.slice A L.length c, .int .i64 (n : Int)] w fun e w' => RowR n w e w' := by
  have T0 : Hid (TapeAt w.heap.size A L c 0 (w.alloc (.cells #[.slice A L.length c, .int .i64 0] 63))) := Lib.hid ⟨hl1 _ _, hA.of_upd ((Upd.refl _ _).alloc _), hlt, by omega, hsm, hwf⟩
  have U0 := Lib.hid ((Upd.refl [] w).alloc (.cells #[.slice A L.length c, .int .i64 0] 63))
  clear hA hlt hsm hwf
  obtain ⟨N, hN⟩ : ∃ N, N = L.length := ⟨_, rfl⟩
  rw [← hN] at T0 U0 ⊢
  have HNL := Lib.hid hN
  clear hN
  go_enter Tryz.func9, Tryz.ntmps9
  go_upto_region 2 with (fail)
  obtain ⟨tb, htb⟩ : ∃ tb, tb = w.heap.size := ⟨_, rfl⟩
  rw [← htb] at T0 ⊢
  have hs1 : (w.alloc (.cells #[.slice A N c, .int .i64 0] 63)).heap.size = tb + 1 := by rw [htb]; simp
  generalize w.alloc (.cells #[.slice A N c, .int .i64 0] 63) = W1 at T0 U0 hs1 ⊢
  have HTB := Lib.hid htb
  clear htb
  have T1 : Hid (TapeAt tb A L c 0 W1) := T0
  clear T0
  go_wp2_with (fail)
  go_loopg [6, 7] n (fun g v6 v7 wl => ∃ (k : Nat) (B : Option Addr) (cap : Nat) (l : List Nat) (a m : Nat), v7 = .int .i64 (k : Int) ∧ k ≤ n ∧ g = n - k ∧ v6 = .slice B m cap ∧ m ≤ k ∧ Hid (l.length = m) ∧ Hid (Ow (tb + 1) wl (.slice B m cap) l) ∧ Hid (∀ y ∈ l, y < 2 ^ 32) ∧ Hid (TapeAt tb A L c a wl) ∧ Hid (Upd [] w wl))
  case atStart => exact ⟨0, none, 0, [], 0, 0, rfl, by omega, rfl, rfl, by omega, Lib.hid rfl, Lib.hid (World.ownsRow_nil _ _ _ _), Lib.hid (by simp), T1, U0⟩
  case round =>
    clear T1 U0
    obtain ⟨k, B, cap, l, a, m, rfl, hk, hg, rfl, hm, HN, OX, HL, TX, VX⟩ := hrel
    have c1 : wr.cell? ⟨tb, 1, none⟩ = some (.int .i64 (a : Int)) := by rw [cells_of TX.out.cell]; rfl
    by_cases hdone : k < n ∧ a < N
    · obtain ⟨hkn, haN⟩ := hdone
      have d1 : decide ((k : Int) < (n : Int)) = true := decide_eq_true (by omega)
      have d2 : decide ((a : Int) < (N : Int)) = true := decide_eq_true (by omega)
      go_wp2_with (fail)
      clear c1 d1 d2 haN
      refine (Next_calls _ _ _ _ _ 4 _ TX.out (by decide) (by decide)).mono ?_
      rintro e w2 ⟨r2, a2, hr2, rfl, T2, U2⟩
      have OY := Lib.hid (OX.out.upd U2 (fun g hg => by simp at hg; omega))
      have VY := Lib.hid (VX.out.then U2 (fun y hy hlt => by simp at hy; have := HTB.out; omega))
      have TY := Lib.hid T2
      clear OX TX VX U2 T2
      by_cases h0 : r2 = 0
      · subst h0
        go_wp2_with (fail)
        refine (Word_calls _ _ _ _ _ _ TY.out).mono ?_
        rintro e w3 ⟨x, a3, hx, rfl, T3, U3⟩
        have OX := Lib.hid (OY.out.upd U3 (fun g hg => by simp at hg; omega))
        have VX := Lib.hid (VY.out.then U3 (fun y hy hlt => by simp at hy; have := HTB.out; omega))
        have TX := Lib.hid T3
        clear OY TY VY U3 T3
        have VA := Lib.hid (VX.out.alloc (.cells (nums .u32 [x]) 36))
        have TA := Lib.hid (TX.out.upd ((Upd.refl [] w3).alloc (.cells (nums .u32 [x]) 36)) (fun g hg => by simp at hg))
        have OA := Lib.hid (OX.out.upd ((Upd.refl [] w3).alloc (.cells (nums .u32 [x]) 36)) (fun g hg => by simp at hg))
        have hsz := TA.out.tb_lt
        have HNN := HN.out
        subst HNN
        clear OX VX TX
        go_wp2_with (at_builtin; refine L_app (.tmp 30) (.tmp 33) rfl (by kernel_rfl) (tb + 1) _ l rfl OA.out _ _ _ [x] rfl rfl (numsAt_new w3 .u32 [x] 36) (by simp only [List.length_cons, List.length_nil]; omega) hsz ?_)
        intro v' w9 O9 u9
        have V9 := Lib.hid (VA.out.then u9 (fun g hg hlt => by have := OA.out.lt g hg; have := HTB.out; omega))
        have T9 := Lib.hid (TA.out.upd u9 (fun g hg => by have := OA.out.lt g hg; omega))
        have H9 := Lib.hid (lt_app HL.out (lt_cons (l := []) hx (by simp)))
        have hl9 : (l ++ [x]).length ≤ k + 1 := by rw [List.length_append]; simp only [List.length_cons, List.length_nil]; omega
        obtain ⟨B9, c9, rfl, hc1, hc2, hn9, hb9⟩ := O9.words
        have O9' := Lib.hid O9
        clear hc1 hc2 hn9 hb9 O9 u9 VA TA OA hsz HL hx
        generalize l ++ [x] = R2 at O9' H9 hl9 ⊢
        obtain ⟨n2, hn2⟩ : ∃ n2, n2 = R2.length := ⟨_, rfl⟩
        rw [← hn2] at O9' hl9 ⊢
        have HN2 := Lib.hid hn2.symm
        clear hn2
        go_wp2_with (fail)
        go_roundg (n - (k + 1))
        case measure => omega
        case rel => exact ⟨k + 1, B9, c9, R2, _, n2, by go_num, by omega, rfl, rfl, hl9, HN2, O9', H9, T9, V9⟩
      · have d0 : ((r2 : Int) == 0) = false := (cast_ne_b h0).1
        clear h0
        go_wp2_with (fail)
        refine (Inst_calls _ _ _ _ _ _ TY.out).mono ?_
        rintro e w3 ⟨i, a3, hi, rfl, T3, U3⟩
        go_wp2_with (fail)
        refine (IEnc_calls i hi _).mono ?_
        rintro e w4 ⟨x, b, hx, rfl, u4⟩
        have OX := Lib.hid ((OY.out.upd U3 (fun g hg => by simp at hg; omega)).upd u4 (fun g hg => by simp at hg))
        have VX := Lib.hid ((VY.out.then U3 (fun y hy hlt => by simp at hy; have := HTB.out; omega)).trans u4)
        have TX := Lib.hid (T3.upd u4 (fun g hg => by simp at hg))
        clear OY TY VY U3 T3 u4
        have VA := Lib.hid (VX.out.alloc (.cells (nums .u32 [x]) 36))
        have TA := Lib.hid (TX.out.upd ((Upd.refl [] w4).alloc (.cells (nums .u32 [x]) 36)) (fun g hg => by simp at hg))
        have OA := Lib.hid (OX.out.upd ((Upd.refl [] w4).alloc (.cells (nums .u32 [x]) 36)) (fun g hg => by simp at hg))
        have hsz := TA.out.tb_lt
        have HNN := HN.out
        subst HNN
        clear OX VX TX
        go_wp2_with (at_builtin; refine L_app (.tmp 41) (.tmp 43) rfl (by kernel_rfl) (tb + 1) _ l rfl OA.out _ _ _ [x] rfl rfl (numsAt_new w4 .u32 [x] 36) (by simp only [List.length_cons, List.length_nil]; omega) hsz ?_)
        intro v' w9 O9 u9
        have V9 := Lib.hid (VA.out.then u9 (fun g hg hlt => by have := OA.out.lt g hg; have := HTB.out; omega))
        have T9 := Lib.hid (TA.out.upd u9 (fun g hg => by have := OA.out.lt g hg; omega))
        have H9 := Lib.hid (lt_app HL.out (lt_cons (l := []) hx (by simp)))
        have hl9 : (l ++ [x]).length ≤ k + 1 := by rw [List.length_append]; simp only [List.length_cons, List.length_nil]; omega
        obtain ⟨B9, c9, rfl, hc1, hc2, hn9, hb9⟩ := O9.words
        have O9' := Lib.hid O9
        clear hc1 hc2 hn9 hb9 O9 u9 VA TA OA hsz HL hx
        generalize l ++ [x] = R2 at O9' H9 hl9 ⊢
        obtain ⟨n2, hn2⟩ : ∃ n2, n2 = R2.length := ⟨_, rfl⟩
        rw [← hn2] at O9' hl9 ⊢
        have HN2 := Lib.hid hn2.symm
        clear hn2
        go_wp2_with (fail)
        go_roundg (n - (k + 1))
        case measure => omega
        case rel => exact ⟨k + 1, B9, c9, R2, _, n2, by go_num, by omega, rfl, rfl, hl9, HN2, O9', H9, T9, V9⟩
    · have key : ∀ z : Bool, z = z := fun z => rfl
      clear key
      have hfin : RowR n w (.returned (.slice B m cap)) wr := by
        have h1 := HN.out
        subst h1
        exact ⟨B, cap, l, rfl, OX.out.mono (by have := HTB.out; omega), HL.out, by omega, VX.out⟩
      have HF := Lib.hid hfin
      clear hfin OX HL TX VX HN
      by_cases hkn : k < n
      · have d1 : decide ((k : Int) < (n : Int)) = true := decide_eq_true (by omega)
        have haN : N ≤ a := by omega
        have d2 : decide ((a : Int) < (N : Int)) = false := decide_eq_false (by omega)
        clear hdone
        go_wp2_with (fail)
        go_ret
        exact HF.out
      · have d1 : decide ((k : Int) < (n : Int)) = false := decide_eq_false (by omega)
        clear hdone
        go_wp2_with (fail)
        go_ret
        exact HF.out
end Go.Proofs.YtmdjhahafjlebaaGreatDoor

namespace Go.Proofs.YtmdjhahafjlebaaGreatDoor
open Go.RowKit Go.Dio
set_option linter.unusedSimpArgs false
set_option linter.unusedVariables false

theorem z32 : (List.replicate 32 0 : List Nat).tail.map enc = List.replicate 31 0 := by
  rw [show (List.replicate 32 0 : List Nat).tail = List.replicate 31 0 from rfl, enc_rep]
/-- Reset to zeros. -/
theorem CO.reset0 {zz w : World} {k : CoB} {s : CoS} (h : CO zz k s w) (p : Nat) (R C : List Nat) (g : Gd p R C) :
    Calls Tryz.prog 19 #[.pointer (some ⟨k.cb, 0, none⟩), .int .u32 (p : Int), .agg (nums .u32 R), .agg (nums .u32 C)] w fun e z' => e = .returned (.tuple #[]) ∧ CO zz k (gold p R C z4 s.ff s.fa s.cf s.ca) z' ∧ Upd k.fp w z' :=
  (Reset_calls k s p R C w h.core g.pc g.len g.clen g.rlt g.clt).mono fun e z' ⟨h1, h2⟩ => ⟨h1, h.cor h2, h2.upd⟩
/-- A cycle from a beginning is not sick. -/
theorem first_ok {p : Nat} {R C m : List Nat} (g : Gd p R C) (ff fa cf ca : Nat) (ha : fa < 31) (hc : ca < 6) : (coCycle memoLd (gold p R C z4 ff fa cf ca) m).2.1 ≤ 1 := by
  cases hb : (fetchP p).2
  · rw [gold_fetch g ff fa cf ca hb ha hc]; exact Nat.zero_le _
  · rw [gold_trap g ff fa cf ca hb ha hc]; exact Nat.le_refl _
theorem flip_f (s : CoS) (c : Int) : (s.flip c).ff = s.ff ∧ (s.flip c).cf = s.cf := by
  unfold CoS.flip
  split
  · exact ⟨rfl, rfl⟩
  split
  · exact ⟨rfl, rfl⟩
  split <;> exact ⟨rfl, rfl⟩
theorem Short_calls (A : Option Addr) (L : List Int) (c : Nat) (w : World) (hA : IntsAt w A L) (hlt : ∀ b o s, A = some ⟨b, o, s⟩ → b < w.heap.size) (hsm : L.length ≤ 9223372036854775807)
    (hwf : ∀ x ∈ L, -9223372036854775808 ≤ x ∧ x ≤ 9223372036854775807) :
    Calls Tryz.prog 17 #[.slice A L.length c] w fun e w' => RowR 776 w e w' := by
  have I := Lib.hid (image_calls A L c 5 w hA hlt hsm hwf (by decide) (by decide))
  clear hA hlt hsm hwf
  generalize L.length = N at I ⊢
  go_enter Tryz.func17, Tryz.ntmps17
  go_wp2_with (fail)
  refine I.out.mono ?_
  rintro e w1 ⟨B, cap, l, rfl, O, hl, hK, U⟩
  go_wp2_with (fail)
  go_ret
  exact ⟨B, cap, l, rfl, O, hl, hK, U⟩
theorem ints_upd {w w' : World} {S : List Nat} {A : Option Addr} {l : List Int} (h : IntsAt w A l) (u : Upd S w w') (hS : ∀ b o s, A = some ⟨b, o, s⟩ → b ∉ S) : IntsAt w' A l := fun h0 => by
  obtain ⟨b, o, hA, hb, hc⟩ := h h0
  exact ⟨b, o, hA, Nat.lt_of_lt_of_le hb u.size, fun i hi => by rw [← hc i hi]; exact World.cell?_of_block (w := w) (u.block b hb (hS b o none hA))⟩
end Go.Proofs.YtmdjhahafjlebaaGreatDoor

namespace Go.Proofs.YtmdjhahafjlebaaGreatDoor.dfr
open Go.ChangeShapes Go.WideShapes Go.ChangeAt Go.RowKit Go.Dio

theorem gTab : Tryz.prog.globalNamed "math/bits.deBruijn64tab" = some 0 := by kernel_rfl
theorem gTabType : (Tryz.prog.globals[0]?).map (·.type) = some 170 := by kernel_rfl
theorem cellsTab : Tryz.prog.cellsOf 170 = 64 := by kernel_rfl
theorem cellsOne : Tryz.prog.cellsOf 5 = 1 := by kernel_rfl

theorem table {W : World} (h : laidMetH Tryz.prog [("math/bits.deBruijn64tab", Rows.laid_math_bits_deBruijn64tab)] W) : Tz W := fun j hj => by
  have ht : Lib.TabIs Tryz.prog W "math/bits.deBruijn64tab" .u8 (Lib.deBruijn64tab.map Int.ofNat) :=
    Lib.tabIs_of_head (rest := []) gTab gTabType Tryz.underlying170 Tryz.underlying5 cellsOne cellsTab h
  have hc := ht.cell gTab j (by rw [List.length_map]; exact hj)
  rw [hc]
  have hl : j < Lib.deBruijn64tab.length := hj
  simp [List.getD, hl]

noncomputable def laidWorld (os : Os) : World :=
  { World.holding Tryz.prog os ⟨#[], #[], []⟩ with heap := (World.holding Tryz.prog os ⟨#[], #[], []⟩).heap.modify 0 fun
      | .cells _ t frozen => .cells (nums .u8 Lib.deBruijn64tab) t frozen
      | o => o }

theorem nat_u32 {x : Int} (h : (Lit.int .u32 x).wf = true) : ∃ n : Nat, x = (n : Int) ∧ n < 2 ^ 32 := by
  have hx : 0 ≤ x ∧ x ≤ 4294967295 := by simpa [Lit.wf, IntKind.min, IntKind.max, IntKind.signed, IntKind.bits] using h
  exact ⟨x.toNat, by omega, by omega⟩
theorem nat_u64 {x : Int} (h : (Lit.int .u64 x).wf = true) : ∃ n : Nat, x = (n : Int) ∧ n < 2 ^ 64 := by
  have hx : 0 ≤ x ∧ x ≤ 18446744073709551615 := by simpa [Lit.wf, IntKind.min, IntKind.max, IntKind.signed, IntKind.bits] using h
  exact ⟨x.toNat, by omega, by omega⟩
end Go.Proofs.YtmdjhahafjlebaaGreatDoor.dfr

namespace Go.Proofs.YtmdjhahafjlebaaGreatDoor
open Go.RowKit Go.Dio
set_option linter.unusedSimpArgs false
set_option linter.unusedVariables false

/-- A core in which nothing is turned, at any place of its way. -/
def Way (s : CoS) : Prop := ∃ p R C ll fa ca, Gd p R C ∧ fa < 31 ∧ ca < 6 ∧ s = gold p R C ll 0 fa 0 ca ∧ (ll = z4 ∨ ∃ w c, w < 2 ^ 32 ∧ c ≤ 40 ∧ ll = lat w c)
theorem Way.new : Way (gold 0 (List.replicate 32 0) (List.replicate 5 0) z4 0 0 0 0) := ⟨_, _, _, _, _, _, Gd.new, by decide, by decide, rfl, .inl rfl⟩
theorem Way.fixes {s : CoS} (h : Way s) : s.ff = 0 ∧ s.cf = 0 := by
  obtain ⟨p, R, C, ll, fa, ca, _, _, _, rfl, _⟩ := h
  exact ⟨rfl, rfl⟩
theorem Way.cycle {s : CoS} {m : List Nat} (h : Way s) (mo : MemOk m) : Way (coCycle memoLd s m).2.2.1 ∧ (coCycle memoLd s m).2.1 ≤ 1 ∧ (coCycle memoLd s m).2.2.2 = m := by
  obtain ⟨p, R, C, ll, fa, ca, g, ha, hc, rfl, hl⟩ := h
  have ha' : (fa + 1) % 31 < 31 := Nat.mod_lt _ (by decide)
  have hc' : (ca + 1) % 6 < 6 := Nat.mod_lt _ (by decide)
  rcases hl with rfl | ⟨w, c, hw, h40, rfl⟩
  · cases hb : (fetchP p).2
    · rw [gold_fetch g 0 fa 0 ca hb ha hc]
      exact ⟨⟨p, R, C, _, _, _, g, ha', hc', rfl, .inr ⟨_, _, mo.at _, by have := cnt_40 (decodeP (nth m (p / 4))); omega, rfl⟩⟩, Nat.zero_le _, rfl⟩
    · rw [gold_trap g 0 fa 0 ca hb ha hc]
      refine ⟨?_, Nat.le_refl _, rfl⟩
      show Way (CoS.fin _ _)
      rw [gold_fin g z4 0 _ 0 _ _ (trapC_w g)]
      exact ⟨_, _, _, _, _, _, gold_next g _ (trapC_w g), ha', hc', rfl, .inl rfl⟩
  · rcases Nat.eq_zero_or_pos c with h0 | h0
    · subst h0
      rw [gold_do g mo 0 fa 0 ca w hw ha hc]
      refine ⟨?_, Nat.le_refl _, rfl⟩
      show Way (CoS.fin _ _)
      rw [gold_fin g (lat w 0) 0 _ 0 _ _ (madeC_w g mo w hw)]
      exact ⟨_, _, _, _, _, _, gold_next g _ (madeC_w g mo w hw), ha', hc', rfl, .inl rfl⟩
    · rw [gold_wait g 0 fa 0 ca w c hw h0 h40 ha hc]
      exact ⟨⟨p, R, C, _, _, _, g, ha', hc', rfl, .inr ⟨w, c - 1, hw, by omega, rfl⟩⟩, Nat.zero_le _, rfl⟩
/-- What such a core tells. -/
theorem Way.state {s : CoS} (h : Way s) : s.stOk = true ∧ s.stR.length = 32 ∧ s.stC.length = 5 := by
  obtain ⟨p, R, C, ll, fa, ca, g, _, _, rfl, _⟩ := h
  obtain ⟨h1, _, h3, h4⟩ := gold_state g ll 0 fa 0 ca
  rw [h1, h3, h4]
  exact ⟨rfl, g.len, g.clen⟩
theorem CO.other {zz w w' : World} {k k2 : CoB} {s : CoS} (h : CO zz k s w) (u : Upd k2.fp w w') (hd : ∀ x ∈ k.fp, x ∉ k2.fp) (ht : 0 ∉ k2.fp) (ho : ∀ x ∈ k2.fp, zz.heap.size ≤ x) : CO zz k s w' :=
  ⟨h.core.upd u hd ht, h.upd.then u (fun x hx hlt => by have := ho x hx; omega), h.own⟩
theorem Way.st {zz w : World} {k : CoB} {s : CoS} (h : CO zz k s w) (y : Way s) :
    Calls Tryz.prog 16 #[.pointer (some ⟨k.cb, 0, none⟩)] w fun e z' => e = .returned (.tuple #[.int .u32 (s.stP : Int), .agg (nums .u32 s.stR), .agg (nums .u32 s.stC), .bool true]) ∧ Upd [] w z' := by
  have h1 := state_c k s w h.core
  rw [y.state.1] at h1
  exact h1
theorem mem_new (A : Option Addr) (ns : List Nat) (N c : Nat) (w : World) (hN : N = ns.length) (hA : NumsAt w .u32 A ns) (hl : N ≤ 1024) (hs : ∀ x ∈ ns, x < 2 ^ 32) :
    Calls Tryz.prog 13 #[.slice A N c] w fun e z' => ∃ mb, e = .returned (.agg #[.slice (some ⟨mb, 0, none⟩) 1024 1024]) ∧ z'.heap[mb]? = some (.cells (nums .u32 (newS ns).mem) 36 (0, 0)) ∧ MemOk (newS ns).mem ∧ Upd [] w z' ∧ w.heap.size ≤ mb := by
  refine (memory_calls A ns N c w hN hA hl).mono ?_
  rintro e z' ⟨mb, rfl, hm, u, ho⟩
  exact ⟨mb, rfl, hm, newS_mem (by omega) hs, u, ho⟩
set_option maxRecDepth 20000 in
set_option maxHeartbeats 16000000 in
theorem steady18 (A : Option Addr) (L : List Int) (n : Int) (c : Nat) (zz : World) (hT : Tz zz) (hA : IntsAt zz A L) (hlt : ∀ b o s, A = some ⟨b, o, s⟩ → b < zz.heap.size) (hsm : L.length ≤ 9223372036854775807)
    (hwf : ∀ x ∈ L, -9223372036854775808 ≤ x ∧ x ≤ 9223372036854775807) (hn : -9223372036854775808 ≤ n ∧ n ≤ 9223372036854775807) :
    Calls Tryz.prog 4 #[.slice A L.length c, .int .i64 n] zz fun e z' => e = .returned (.bool true) ∧ Upd [] zz z' := by
  have NW := Lib.hid (fun w (u : Upd [] zz w) => CO.new zz w u (hT.of_upd u (by simp)))
  have KN := Lib.hid (fun w (u : Upd [] zz w) => known18 w (hT.of_upd u (by simp)))
  have I := Lib.hid (fun w1 (u : Upd [] zz w1) => Image_calls A L c w1 (hA.of_upd u) (fun b o s h => Nat.lt_of_lt_of_le (hlt b o s h) u.size) hsm hwf)
  have HTL := Lib.hid hT.lt
  have WI := Lib.hid (fun w => Within_calls n 0 900 w (by decide) (by decide) (by decide) hn)
  have hy := within_range (n := n) (show (0 : Int) ≤ 900 by decide)
  obtain ⟨y, hyv⟩ : ∃ y : Nat, within n 0 900 = (y : Int) := ⟨(within n 0 900).toNat, by omega⟩
  rw [hyv] at WI hy
  have hy9 : y ≤ 900 := by omega
  generalize L.length = N at I ⊢
  clear hT hA hlt hsm hwf hn hyv hy
  go_enter Tryz.func4, Tryz.ntmps4
  go_wp2_with (fail)
  refine (NW.out _ (Upd.refl _ _)).mono ?_
  rintro e w1 ⟨ka, rfl, c1, u1, ho1⟩
  have A1 := Lib.hid c1
  have HA1 := Lib.hid c1.core.lt
  have NB := Lib.hid (NW.out _ c1.upd)
  clear c1 u1 ho1 NW
  go_wp2_with (fail)
  refine NB.out.mono ?_
  rintro e w2 ⟨kb, rfl, c2, u2, ho2⟩
  have A2 := Lib.hid (A1.out.near u2)
  have B2 := Lib.hid c2
  have DAB : Hid (∀ x ∈ kb.fp, x ∉ ka.fp) := Lib.hid (fun x hx hm => by have := HA1.out x hm; have := ho2 x hx; omega)
  have DBA : Hid (∀ x ∈ ka.fp, x ∉ kb.fp) := Lib.hid (fun x hx hm => by have := HA1.out x hx; have := ho2 x hm; omega)
  have TA : Hid (0 ∉ ka.fp) := Lib.hid (fun hm => by have := A2.out.own _ hm; have := HTL.out; omega)
  have TB : Hid (0 ∉ kb.fp) := Lib.hid (fun hm => by have := B2.out.own _ hm; have := HTL.out; omega)
  have OA := Lib.hid A2.out.own
  have OB := Lib.hid B2.out.own
  clear c2 u2 ho2 NB A1
  go_wp2_with (fail)
  refine (CBits_calls ka _ _ A2.out.core).mono ?_
  rintro e w3 ⟨rfl, u3⟩
  have A3 := Lib.hid (A2.out.near u3)
  have B3 := Lib.hid (B2.out.near u3)
  clear u3 A2 B2
  go_wp2_with (fail)
  refine (CBits_calls kb _ _ B3.out.core).mono ?_
  rintro e w4 ⟨rfl, u4⟩
  have A4 := Lib.hid (A3.out.near u4)
  have B4 := Lib.hid (B3.out.near u4)
  clear u4 A3 B3
  go_wp2_with (fail)
  refine (I.out _ A4.out.upd).mono ?_
  rintro e w5 ⟨B5, cap5, l5, rfl, O5, hx5, hl5, u5⟩
  have A5 := Lib.hid (A4.out.near u5)
  have B5' := Lib.hid (B4.out.near u5)
  have ME := Lib.hid (mem_new B5 l5 l5.length cap5 w5 rfl O5.nat (by omega) hx5)
  have L5A := Lib.hid A5.out.core.lt
  have L5B := Lib.hid B5'.out.core.lt
  have Z5 := Lib.hid A5.out.upd.size
  clear O5 hx5 u5 I A4 B4
  generalize (newS l5).mem = m at *
  generalize l5.length = n5 at *
  go_wp2_with (fail)
  refine ME.out.mono ?_
  rintro e w6 ⟨mb, rfl, hm6, mok, u6, ho6⟩
  have MK := Lib.hid mok
  have UA := (Upd.refl [] w6).alloc (.cells #[.slice (some ⟨mb, 0, none⟩) 1024 1024] 33)
  have MB := Lib.hid (Go.heap_alloc_last w6 (.cells #[.slice (some ⟨mb, 0, none⟩) 1024 1024] 33))
  have h56 := u6.size
  have MA : Hid (mb ∉ ka.fp ∧ mb ∉ kb.fp ∧ zz.heap.size ≤ mb) := Lib.hid ⟨fun hm => by have := L5A.out _ hm; omega, fun hm => by have := L5B.out _ hm; omega, Nat.le_trans Z5.out ho6⟩
  have BK : Hid (w6.heap.size ∉ ka.fp ∧ w6.heap.size ∉ kb.fp) := Lib.hid ⟨fun hm => by have := L5A.out _ hm; omega, fun hm => by have := L5B.out _ hm; omega⟩
  have P0 : Hid (∃ s, Way s ∧ CO zz ka s (w6.alloc (.cells #[.slice (some ⟨mb, 0, none⟩) 1024 1024] 33)) ∧ CO zz kb s (w6.alloc (.cells #[.slice (some ⟨mb, 0, none⟩) 1024 1024] 33)) ∧ (w6.alloc (.cells #[.slice (some ⟨mb, 0, none⟩) 1024 1024] 33)).heap[mb]? = some (.cells (nums .u32 m) 36 (0, 0))) := Lib.hid ⟨_, Way.new, (A5.out.near u6).near UA, (B5'.out.near u6).near UA, UA.keep hm6 (by simp)⟩
  clear UA hm6 mok u6 ho6 ME A5 B5' L5A L5B Z5 h56
  go_wp2_with (fail)
  generalize hW6 : w6.alloc (.cells #[.slice (some ⟨mb, 0, none⟩) 1024 1024] 33) = w7 at *
  clear hW6
  generalize w6.heap.size = b7 at *
  go_loopw [8] (fun v8 wl => ∃ i : Nat, v8 = .int .i64 (i : Int) ∧ i ≤ y ∧ Hid (∃ s, Way s ∧ CO zz ka s wl ∧ CO zz kb s wl ∧ wl.heap[mb]? = some (.cells (nums .u32 m) 36 (0, 0))) ∧ Hid (wl.heap[b7]? = some (.cells #[.slice (some ⟨mb, 0, none⟩) 1024 1024] 33 (0, 0)))) (fun v8 _ => y - (intOf v8).toNat)
  case atStart => exact ⟨0, rfl, by omega, P0, MB⟩
  case round =>
    obtain ⟨i, rfl, hi, HX, MBl⟩ := hrel
    clear P0 MB
    obtain ⟨s, way, ca, cb, hm⟩ := HX.out
    have WA := Lib.hid way
    have CA := Lib.hid ca
    have CB := Lib.hid cb
    have MM := Lib.hid hm
    clear HX way ca cb hm
    rcases Nat.lt_or_ge i y with hlt | hge
    · have dl : decide ((i : Int) < (y : Int)) = true := decide_eq_true (by omega)
      have hfx := WA.out.fixes
      have mok := MK.out
      have wc := WA.out.cycle (m := m) MK.out
      have CY := Lib.hid (CA.out.cycle (MO.mk MM.out MK.out MA.out.1 MA.out.2.2) (by omega) (by omega))
      have CZ := Lib.hid (fun w (h : CO zz kb s w) (hm : w.heap[mb]? = some (.cells (nums .u32 m) 36 (0, 0))) => h.cycle (MO.mk hm MK.out MA.out.2.1 MA.out.2.2) (by omega) (by omega))
      generalize coCycle memoLd s m = X at *
      obtain ⟨r, wh, s2, m2⟩ := X
      obtain ⟨wc1, wc2, wc3⟩ := wc
      dsimp only at wc1 wc2 wc3 CY CZ
      subst wc3
      have WB := Lib.hid wc1
      have dw : ((wh : Int) == 2) = false := by rw [beq_eq_false_iff_ne]; omega
      have q0 : ∀ w, (Op.equalIn 10000 38 (.agg r.cells.toArray) (.agg r.cells.toArray)).run Tryz.prog w = .ok true w := fun w => by
        have h := ret_eq r r w
        rw [decide_eq_true rfl] at h
        exact h
      clear wc1 hfx mok WA
      go_wp2_with (fail)
      refine (WI.out _).mono ?_
      rintro e wa ⟨rfl, rfl⟩
      go_wp2_with (first
        | go_skip
        | ((with_reducible refine at_op 47 ?_); refine L_load 33 (.tmp 7) rfl (by kernel_rfl) _ _ rfl #[.slice (some ⟨mb, 0, none⟩) 1024 1024] (row_arr MBl.out) Tryz.underlying33 rfl 1 info_memo rfl ?_))
      refine CY.out.mono ?_
      rintro e wb ⟨rfl, ca2, mo2, ub⟩
      have UB := (Upd.refl [] wb).alloc (.cells r.cells.toArray 38)
      have CA2 := Lib.hid (ca2.near UB)
      have CB2 := Lib.hid ((CB.out.other ub DAB.out TA.out OA.out).near UB)
      have MM2 := Lib.hid (UB.keep mo2.mem (by simp))
      have MB2 := Lib.hid (UB.keep (ub.keep MBl.out BK.out.1) (by simp))
      have R9 := Lib.hid (Go.heap_alloc_last wb (.cells r.cells.toArray 38))
      have K9 : wb.heap.size ∉ kb.fp := fun hm => by have := (CB.out.other ub DAB.out TA.out OA.out).core.lt _ hm; omega
      clear UB ca2 mo2 ub CA CB MM MBl CY
      generalize hWB : wb.alloc (.cells r.cells.toArray 38) = wB at *
      have HWB := Lib.hid hWB
      clear hWB
      go_wp2_with (first
        | go_skip
        | ((with_reducible refine at_st 9 ?_); refine L_store_new 38 (.tmp 9) (.tmp 50) rfl (by kernel_rfl) _ r.cells.toArray rfl rfl 7 info_ret rfl rfl (RetV.one _) ?_; rw [HWB.out])
        | ((with_reducible refine at_op 54 ?_); refine L_load 33 (.tmp 7) rfl (by kernel_rfl) _ _ rfl #[.slice (some ⟨mb, 0, none⟩) 1024 1024] (row_arr MB2.out) Tryz.underlying33 rfl 1 info_memo rfl ?_))
      refine (CZ.out _ CB2.out MM2.out).mono ?_
      rintro e wd ⟨rfl, cb3, mo3, ud⟩
      have UD := (Upd.refl [] wd).alloc (.cells r.cells.toArray 38)
      have CB3 := Lib.hid (cb3.near UD)
      have CA3 := Lib.hid ((CA2.out.other ud DBA.out TB.out OB.out).near UD)
      have MM3 := Lib.hid (UD.keep mo3.mem (by simp))
      have MB3 := Lib.hid (UD.keep (ud.keep MB2.out BK.out.2) (by simp))
      have R93 := Lib.hid (UD.keep (ud.keep R9.out K9) (by simp))
      have RB := Lib.hid (Go.heap_alloc_last wd (.cells r.cells.toArray 38))
      clear UD cb3 mo3 ud CA2 CB2 MM2 MB2 CZ K9 R9
      generalize hWD : wd.alloc (.cells r.cells.toArray 38) = wD at *
      have HWD := Lib.hid hWD
      clear hWD
      go_wp2_with (first
        | go_skip
        | ((with_reducible refine at_st 11 ?_); refine L_store_new 38 (.tmp 11) (.tmp 57) rfl (by kernel_rfl) _ r.cells.toArray rfl rfl 7 info_ret rfl rfl (RetV.one _) ?_; rw [HWD.out])
        | ((with_reducible refine at_op 59 ?_); refine L_load 38 (.tmp 9) rfl (by kernel_rfl) _ _ rfl r.cells.toArray (row_arr R93.out) Tryz.underlying38 rfl 7 info_ret rfl ?_)
        | ((with_reducible refine at_op 60 ?_); refine L_load 38 (.tmp 11) rfl (by kernel_rfl) _ _ rfl r.cells.toArray (row_arr RB.out) Tryz.underlying38 rfl 7 info_ret rfl ?_))
      go_roundw
      case measure => simp [intOf]; omega
      case rel => exact ⟨i + 1, by go_num, by omega, Lib.hid ⟨s2, WB.out, CA3.out, CB3.out, MM3.out⟩, MB3⟩
    · have dl : decide ((i : Int) < (y : Int)) = false := decide_eq_false (by omega)
      have SA := Lib.hid (Way.st CA.out WA.out)
      have SB := Lib.hid (fun w (h : CO zz kb s w) => Way.st h WA.out)
      have lR := WA.out.state.2.1
      have lC := WA.out.state.2.2
      generalize s.stP = p at *
      generalize s.stR = R at *
      generalize s.stC = C at *
      go_wp2_with (fail)
      refine (WI.out _).mono ?_
      rintro e wa ⟨rfl, rfl⟩
      go_wp2_with (fail)
      refine SA.out.mono ?_
      rintro e wb ⟨rfl, ub⟩
      have CB2 := Lib.hid (CB.out.near ub)
      clear ub SA CA CB MM MBl
      go_wp2_with (first
        | go_skip
        | ((with_reducible refine at_st 14 ?_); refine L_store_row 41 (.tmp 14) (.tmp 75) rfl (by kernel_rfl) (wb).heap.size 0 rfl (nums .u32 (List.replicate 32 0)).toList 41 (heap_old (Go.heap_alloc_last wb _) _) (nums .u32 R) rfl 32 info_r32 (by rw [nums_size]; exact lR) (Nat.le_refl _) (nums_one _ _) ?_))
      intro wA b2 u2 z2
      rw [spl_all (by first | rfl | (simp only [Array.length_toList, nums_size, List.length_replicate]; exact lR))] at b2
      have A1 := Lib.hid b2
      have A2 : Hid (wA.heap[(wb).heap.size + 1]? = some (.cells (nums .u32 (List.replicate 5 0)).toList.toArray 42 (0, 0))) := Lib.hid (u2.keep (heap2 wb _ _) (by simp))
      have V2 := Lib.hid ((((Upd.refl [] wb).alloc _).alloc _).then u2 (fun x hx hlt => by simp at hx; omega))
      clear b2 u2 z2
      go_wp2_with (first
        | go_skip
        | ((with_reducible refine at_st 15 ?_); refine L_store_row 42 (.tmp 15) (.tmp 76) rfl (by kernel_rfl) ((wb).heap.size + 1) 0 rfl (nums .u32 (List.replicate 5 0)).toList 42 A2.out (nums .u32 C) rfl 5 info_rc5 (by rw [nums_size]; exact lC) (Nat.le_refl _) (nums_one _ _) ?_))
      intro wc b3 u3 z3
      rw [spl_all (by first | rfl | (simp only [Array.length_toList, nums_size, List.length_replicate]; exact lC))] at b3
      have T15 : Hid ((wc).heap[(wb).heap.size + 1]? = some (.cells (nums .u32 C) 42 (0, 0))) := Lib.hid (by simpa using b3)
      have T14 : Hid ((wc).heap[(wb).heap.size]? = some (.cells (nums .u32 R) 41 (0, 0))) := Lib.hid (by simpa using u3.keep A1.out (by simp))
      have VC := Lib.hid (V2.out.then u3 (fun x hx hlt => by simp at hx; omega))
      clear b3 u3 z3 A1 A2 V2
      have CB3 := Lib.hid (CB2.out.near VC.out)
      have SB3 := Lib.hid (SB.out _ CB3.out)
      clear VC CB2 SB
      go_wp2_with (fail)
      refine SB3.out.mono ?_
      rintro e wd ⟨rfl, ud⟩
      have CB4 := Lib.hid (CB3.out.near ud)
      have T15d := Lib.hid (ud.keep T15.out (by simp))
      have T14d := Lib.hid (ud.keep T14.out (by simp))
      clear ud SB3 CB3 T15 T14
      go_wp2_with (first
        | go_skip
        | ((with_reducible refine at_st 18 ?_); refine L_store_row 41 (.tmp 18) (.tmp 82) rfl (by kernel_rfl) (wd).heap.size 0 rfl (nums .u32 (List.replicate 32 0)).toList 41 (heap_old (Go.heap_alloc_last wd _) _) (nums .u32 R) rfl 32 info_r32 (by rw [nums_size]; exact lR) (Nat.le_refl _) (nums_one _ _) ?_))
      intro wA b2 u2 z2
      rw [spl_all (by first | rfl | (simp only [Array.length_toList, nums_size, List.length_replicate]; exact lR))] at b2
      have A1 := Lib.hid b2
      have A2 : Hid (wA.heap[(wd).heap.size + 1]? = some (.cells (nums .u32 (List.replicate 5 0)).toList.toArray 42 (0, 0))) := Lib.hid (u2.keep (heap2 wd _ _) (by simp))
      have V2 := Lib.hid ((((Upd.refl [] wd).alloc _).alloc _).then u2 (fun x hx hlt => by simp at hx; omega))
      clear b2 u2 z2
      go_wp2_with (first
        | go_skip
        | ((with_reducible refine at_st 19 ?_); refine L_store_row 42 (.tmp 19) (.tmp 83) rfl (by kernel_rfl) ((wd).heap.size + 1) 0 rfl (nums .u32 (List.replicate 5 0)).toList 42 A2.out (nums .u32 C) rfl 5 info_rc5 (by rw [nums_size]; exact lC) (Nat.le_refl _) (nums_one _ _) ?_))
      intro we b3 u3 z3
      rw [spl_all (by first | rfl | (simp only [Array.length_toList, nums_size, List.length_replicate]; exact lC))] at b3
      have T19 : Hid ((we).heap[(wd).heap.size + 1]? = some (.cells (nums .u32 C) 42 (0, 0))) := Lib.hid (by simpa using b3)
      have T18 : Hid ((we).heap[(wd).heap.size]? = some (.cells (nums .u32 R) 41 (0, 0))) := Lib.hid (by simpa using u3.keep A1.out (by simp))
      have VE := Lib.hid (V2.out.then u3 (fun x hx hlt => by simp at hx; omega))
      clear b3 u3 z3 A1 A2 V2
      have CB5 := Lib.hid (CB4.out.near VE.out)
      have T15e := Lib.hid (VE.out.keep T15d.out (by simp))
      have T14e := Lib.hid (VE.out.keep T14d.out (by simp))
      clear VE CB4 T15d T14d
      have qR : ∀ w, (binOp .eql 41 (.agg (nums .u32 R)) (.agg (nums .u32 R))).run Tryz.prog w = .ok (.bool true) w := fun w => by
        have h := run_eqR R R lR lR w
        rw [decide_eq_true rfl] at h
        exact h
      have qC : ∀ w, (binOp .eql 42 (.agg (nums .u32 C)) (.agg (nums .u32 C))).run Tryz.prog w = .ok (.bool true) w := fun w => by
        have h := run_eqC C C lC lC w
        rw [decide_eq_true rfl] at h
        exact h
      go_upto_region 14 with (fail)
      repeat (first
        | (refine at_op 95 ?_; refine L_load 41 (.tmp 14) rfl (by kernel_rfl) _ _ rfl (nums .u32 R) (row_arr T14e.out) Tryz.underlying41 rfl 32 info_r32 (by rw [nums_size]; exact lR) ?_)
        | (refine at_op 96 ?_; refine L_load 41 (.tmp 18) rfl (by kernel_rfl) _ _ rfl (nums .u32 R) (row_arr T18.out) Tryz.underlying41 rfl 32 info_r32 (by rw [nums_size]; exact lR) ?_)
        | (refine at_op 100 ?_; refine L_load 42 (.tmp 15) rfl (by kernel_rfl) _ _ rfl (nums .u32 C) (row_arr T15e.out) Tryz.underlying42 rfl 5 info_rc5 (by rw [nums_size]; exact lC) ?_)
        | (refine at_op 101 ?_; refine L_load 42 (.tmp 19) rfl (by kernel_rfl) _ _ rfl (nums .u32 C) (row_arr T19.out) Tryz.underlying42 rfl 5 info_rc5 (by rw [nums_size]; exact lC) ?_)
        | go_values | go_skip | go_guarded | go_step | go_upon)
      refine (KN.out _ CB5.out.upd).mono ?_
      rintro e wq ⟨rfl, uq⟩
      have UQ := Lib.hid (CB5.out.upd.trans uq)
      clear uq
      go_wp2_with (fail)
      go_ret
      exact ⟨rfl, UQ.out⟩
theorem wf_i64 {x : Int} (h : (Lit.int .i64 x).wf = true) : -9223372036854775808 ≤ x ∧ x ≤ 9223372036854775807 := by
  simpa [Lit.wf, IntKind.min, IntKind.max, IntKind.signed, IntKind.bits] using h
theorem steady18b (A : Option Addr) (L : List Int) (n : Int) (c : Nat) (zz : World) (hT : Tz zz) (hA : IntsAt zz A L) (hlt : ∀ b o s, A = some ⟨b, o, s⟩ → b < zz.heap.size) (hsm : L.length ≤ 9223372036854775807)
    (hwf : ∀ x ∈ L, -9223372036854775808 ≤ x ∧ x ≤ 9223372036854775807) (hn : -9223372036854775808 ≤ n ∧ n ≤ 9223372036854775807) :
    Calls Tryz.prog 4 #[.slice A L.length c, .int .i64 n] zz fun e z' => e = .returned (.bool true) ∧ Below zz.heap.size zz z' :=
  (steady18 A L n c zz hT hA hlt hsm hwf hn).mono fun e z' ⟨h, u⟩ => ⟨h, u.below⟩
end Go.Proofs.YtmdjhahafjlebaaGreatDoor

namespace Go.Proofs.YtmdjhahafjlebaaGreatDoor.cCoreSteady
open Go.ChangeShapes Go.WideShapes Go.ChangeAt Go.RowKit Go.Dio
open Go.ChangeMaps (open_string shut_string)
set_option linter.unusedVariables false
set_option maxRecDepth 100000

theorem contract (H : Type) (enc : TypeId × Value → H) (W : World) (base : Nat) (args : Array Value) (ds gs : List (DataW H)) (before : List MemPlace)
    (hval : ∀ (j : Nat) t v, Tryz.f4.params[j]? = some t → args[j]? = some v → Value.okWide Tryz.prog W .any base t v)
    (hW : DataW.Whole enc Tryz.prog Tryz.f4.params.toList Rows.coreSteadySpec.vars false W args.toList ds gs before) (hL : laidMetH Tryz.prog Rows.coreSteadyRow.laid W) :
    Calls Tryz.prog 4 args W fun e W' => ∃ v, e = .returned v ∧ Rows.coreSteadySpec.post enc Tryz.prog Tryz.f4 false true false false W args v W' := by
  have hT : Tz W := dfr.table hL
  have hW' := hW
  obtain ⟨p, q, hA0, hV, rfl, hfz, hnd⟩ := hW
  have hA : DataW.TrodAll enc Tryz.prog W 0 (fun _ => true) true Tryz.f4.params.toList args.toList ds p := hA0
  rw [Tryz.params4] at hA hval
  obtain ⟨v0, vs0, d0, ds0, p0, q0, hargs, rfl, rfl, h0, r0⟩ := trodAll_cons hA
  obtain ⟨v1, vs1, d1, ds1, p1, q1, rfl, rfl, rfl, h1, r1⟩ := trodAll_cons r0
  obtain ⟨rfl, rfl, rfl⟩ := trodAll_nil r1
  obtain rfl : args = #[v0, v1] := by cases args; simp_all
  obtain ⟨rfl, rfl⟩ := trodVars_none hV
  obtain ⟨A0, n0, c0, rfl⟩ := okWide_slice Tryz.underlying22 (hval 0 22 v0 rfl rfl)
  obtain ⟨l0, L0, rfl, c0le, m0, k0, b0⟩ := fr.open_ints' Tryz.underlying22 Tryz.underlying3 (by kernel_rfl) h0
  obtain ⟨a1, rfl, rfl, rfl, w1⟩ := open_int Tryz.underlying3 (hval 1 3 v1 rfl rfl) h1
  clear hA0
  refine (steady18b A0 l0 a1 c0 W hT L0 (okWide_ltw Tryz.underlying22 (hval 0 22 _ rfl rfl)) (by omega) (wf_rangew k0) (wf_i64 w1)).mono fun e W' ⟨he, bel⟩ => ?_
  subst he
  exact ⟨_, rfl, fr.post_true fr.laidOut (by kernel_rfl) rfl hW' bel 4 rfl Tryz.underlying4 rfl rfl rfl⟩

theorem laid_met (os : Os) : laidMet Tryz.prog Rows.coreSteadyRow.laid ((dfr.laidWorld os).forCall (fun _ _ => 0) ⟨#[], #[.slice none 0 0, .int .i64 0], []⟩).memory :=
  laidMet_of_run' 8 (by kernel_rfl) (by kernel_rfl)
theorem reads (os : Os) {H : Type} (enc : TypeId × Value → H) : ∃ places, DataW.whole enc Tryz.prog ((dfr.laidWorld os).forCall (fun _ _ => 0) ⟨#[], #[.slice none 0 0, .int .i64 0], []⟩).memory Tryz.f4.params.toList Rows.coreSteadySpec.vars false (#[.slice none 0 0, .int .i64 0] : Array Value).toList 8 = some ([.nil, .lit (.int .i64 0)], [], places) :=
  ⟨[], by kernel_rfl⟩

set_option maxRecDepth 100000 in
theorem lifted (os : Os) (started : os.Started) (H : Type) (enc : TypeId × Value → H) (F : Stop.Interp) :
    ReturnsInHanded {} Tryz.checked os 4 .any ((OpenSpec.ofChange Rows.coreSteadySpec).preRow enc Tryz.prog Tryz.f4 Rows.coreSteadyRow.domain false Rows.coreSteadyRow.laid) (((OpenSpec.ofChange Rows.coreSteadySpec).at F).post enc Tryz.prog Tryz.f4 false true false false) := by
  obtain ⟨places, hx⟩ := reads os enc
  refine returnsInHanded_of_row (C := Tryz.checked) (s := OpenSpec.ofChange Rows.coreSteadySpec) fr.own started (by kernel_rfl) Tryz.func4
    (witness_row_at (enc := enc) (C := Tryz.checked) false (dfr.laidWorld os) #[.slice none 0 0, .int .i64 0] rfl (by kernel_rfl) (by kernel_rfl) (by kernel_rfl)
      (OpenSpec.preRow_of_cond 8 hx (by kernel_rfl) (fun k hk => by cases hk) (by kernel_rfl) (laid_met os))) ?_
  intro W base args ds gs before hval hW _ _ _ hL _ _
  exact contract H enc W base args ds gs before hval hW hL

theorem band {a b : Bool} (h : a = true) (k : b = true) : (a && b) = true := by rw [h, k]; rfl
set_option maxHeartbeats 4000000 in
theorem facts : joinedFacts Tryz.pinned.checked.prog 4 Tryz.f4 (OpenSpec.ofChange Rows.coreSteadySpec).bare Rows.coreSteadyRow = true := by
  delta joinedFacts
  repeat' (with_reducible refine band ?_ ?_)
  all_goals as_aux_lemma => kernel_rfl

theorem said : Rows.CoreSteadySaid :=
  OpenClaim.holds_of_cond 4 Tryz.f4 rfl rfl rfl rfl rfl rfl rfl ⟨rfl, rfl, rfl, rfl, rfl⟩ rfl rfl rfl rfl rfl (by kernel_rfl) Tryz.func4 facts
    (of_decide_eq_true (by kernel_rfl)) (by unfold Func.isWrapper; first | (rw [if_pos (by decide +kernel)]; kernel_rfl) | (rw [if_neg (by decide +kernel)]; exact ⟨rfl, rfl⟩))
    (fun os started H enc _ F => by rw [OpenClaim.pre_eq_preRow]; exact lifted os started H enc F)

theorem plain (f : FuncId) (fn : Func) (hf : Tryz.pinned.checked.prog.funcNamed "dioscuri/dioscurilaw18.CoreSteady" = some f) (hfn : Tryz.pinned.checked.prog.funcs[f]? = some fn) :
    false = Tryz.pinned.checked.prog.looks [] ∧ ∀ (j : Nat) t, fn.params[j]? = some t → Tryz.pinned.checked.prog.wantsStandIn t = false := by
  obtain rfl : f = 4 := Option.some.inj ((show Tryz.prog.funcNamed "dioscuri/dioscurilaw18.CoreSteady" = some 4 by kernel_rfl).symm.trans hf) |>.symm
  obtain rfl : fn = Tryz.f4 := (Option.some.inj (Tryz.func4.symm.trans hfn)).symm
  refine ⟨by kernel_rfl, fun j t ht => ?_⟩
  have hall : (Tryz.f4.params.toList.all fun t => !Tryz.prog.wantsStandIn t) = true := by kernel_rfl
  have hm : t ∈ Tryz.f4.params.toList := by simpa using Array.mem_of_getElem? ht
  have := List.all_eq_true.1 hall t hm
  show Tryz.prog.wantsStandIn t = false
  simpa using this

theorem card : Rows.CoreSteadyCardSaid :=
  Claim7.holds_tied_plain_at .later [] _ _ _ _ said (fun _ h => by cases h) (by kernel_rfl) (fun _ h => by cases h) coreSteady_row_tie rfl ⟨rfl, rfl⟩ (by kernel_rfl) rfl plain (by kernel_rfl)
#print axioms card
end Go.Proofs.YtmdjhahafjlebaaGreatDoor.cCoreSteady
