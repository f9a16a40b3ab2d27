/- Tapes: rows of instructions. -/
import Derived.Test.YtggjmdgonjhioaaGreatQZ52
import Derived.Test.YtggjmdgonjhioaaGreatQZ53
import Derived.Test.YtggjmdgonjhioaaGreatQZ51
import Derived.Test.YtggjmdgonjhioaaGreatQZ49
namespace Go.Proofs.YtggjmdgonjhioaaGreat
open Go.RowKit Go.Dio
set_option linter.unusedSimpArgs false
set_option linter.unusedVariables false

theorem Image_calls (A : Option Addr) (L : List Int) (c : Nat) (w : World) (hA : IntsAt w A L) (hlt : ∀ b o s, A = some ⟨b, o, s⟩ → b < w.heap.size) (hsm : L.length ≤ 9223372036854775807)
    (hwf : ∀ x ∈ L, -9223372036854775808 ≤ x ∧ x ≤ 9223372036854775807) :
    Calls Tryz.prog 6 #[.slice A L.length c] w fun e w' => RowR 776 w e w' := by
  have I := Lib.hid (image_calls A L c 14 w hA hlt hsm hwf (by decide) (by decide))
  clear hA hlt hsm hwf
  generalize L.length = N at I ⊢
  go_enter Tryz.func6, Tryz.ntmps6
  go_wp2_with (fail)
  refine I.out.mono ?_
  rintro e w1 ⟨B, cap, l, rfl, O, hl, hK, U⟩
  go_wp2_with (fail)
  go_ret
  exact ⟨B, cap, l, rfl, O, hl, hK, U⟩

theorem IEnc_calls (i : InstV) (h : OkI i) (z : World) :
    Calls Tryz.prog 18 #[.agg i.arr] z fun e z' => ∃ (n : Nat) (b : Bool), n < 2 ^ 32 ∧ e = .returned (.tuple #[.int .u32 (n : Int), .bool b]) ∧ Upd [] z z' := by
  obtain ⟨op, rd, r1, r2, imm⟩ := i
  obtain ⟨h0, h1, h2, h3, h4⟩ := h
  dsimp only at h0 h1 h2 h3 h4
  obtain ⟨o, rfl⟩ : ∃ o, op = o + 1 := ⟨op - 1, by omega⟩
  refine (enc_calls o rd r1 r2 imm z (by omega) h2 h3 h4).mono ?_
  rintro e z' ⟨rfl, u⟩
  exact ⟨_, _, encP_lt (o + 1) rd r1 r2 imm (by omega) (by omega) h2 h3 h4, rfl, u⟩
set_option maxHeartbeats 8000000 in
theorem Raw_calls (A : Option Addr) (L : List Int) (c n : Nat) (w : World) (hA : IntsAt w A L) (hlt : ∀ b o s, A = some ⟨b, o, s⟩ → b < w.heap.size) (hsm : L.length ≤ 9223372036854775807)
    (hwf : ∀ x ∈ L, -9223372036854775808 ≤ x ∧ x ≤ 9223372036854775807) (hn : n ≤ 100) :
    Calls Tryz.prog 8 #[.slice A L.length c, .int .i64 (n : Int)] w fun e w' => RowR n w e w' := by
  have T0 : Hid (TapeAt w.heap.size A L c 0 (w.alloc (.cells #[.slice A L.length c, .int .i64 0] 44))) := Lib.hid ⟨hl1 _ _, hA.of_upd ((Upd.refl _ _).alloc _), hlt, by omega, hsm, hwf⟩
  have U0 := Lib.hid ((Upd.refl [] w).alloc (.cells #[.slice A L.length c, .int .i64 0] 44))
  clear hA hlt hsm hwf
  obtain ⟨N, hN⟩ : ∃ N, N = L.length := ⟨_, rfl⟩
  rw [← hN] at T0 U0 ⊢
  have HNL := Lib.hid hN
  clear hN
  go_enter Tryz.func8, Tryz.ntmps8
  go_upto_region 2 with (fail)
  obtain ⟨tb, htb⟩ : ∃ tb, tb = w.heap.size := ⟨_, rfl⟩
  rw [← htb] at T0 ⊢
  have hs1 : (w.alloc (.cells #[.slice A N c, .int .i64 0] 44)).heap.size = tb + 1 := by rw [htb]; simp
  generalize w.alloc (.cells #[.slice A N c, .int .i64 0] 44) = W1 at T0 U0 hs1 ⊢
  have HTB := Lib.hid htb
  clear htb
  have T1 : Hid (TapeAt tb A L c 0 W1) := T0
  clear T0
  go_wp2_with (fail)
  go_loopg [6, 7] n (fun g v6 v7 wl => ∃ (k : Nat) (B : Option Addr) (cap : Nat) (l : List Nat) (a m : Nat), v7 = .int .i64 (k : Int) ∧ k ≤ n ∧ g = n - k ∧ v6 = .slice B m cap ∧ m ≤ k ∧ Hid (l.length = m) ∧ Hid (Ow (tb + 1) wl (.slice B m cap) l) ∧ Hid (∀ y ∈ l, y < 2 ^ 32) ∧ Hid (TapeAt tb A L c a wl) ∧ Hid (Upd [] w wl))
  case atStart => exact ⟨0, none, 0, [], 0, 0, rfl, by omega, rfl, rfl, by omega, Lib.hid rfl, Lib.hid (World.ownsRow_nil _ _ _ _), Lib.hid (by simp), T1, U0⟩
  case round =>
    clear T1 U0
    obtain ⟨k, B, cap, l, a, m, rfl, hk, hg, rfl, hm, HN, OX, HL, TX, VX⟩ := hrel
    have c1 : wr.cell? ⟨tb, 1, none⟩ = some (.int .i64 (a : Int)) := by rw [cells_of TX.out.cell]; rfl
    by_cases hdone : k < n ∧ a < N
    · obtain ⟨hkn, haN⟩ := hdone
      have d1 : decide ((k : Int) < (n : Int)) = true := decide_eq_true (by omega)
      have d2 : decide ((a : Int) < (N : Int)) = true := decide_eq_true (by omega)
      go_wp2_with (fail)
      clear c1 d1 d2 haN
      refine (Next_calls _ _ _ _ _ 4 _ TX.out (by decide) (by decide)).mono ?_
      rintro e w2 ⟨r2, a2, hr2, rfl, T2, U2⟩
      have OY := Lib.hid (OX.out.upd U2 (fun g hg => by simp at hg; omega))
      have VY := Lib.hid (VX.out.then U2 (fun y hy hlt => by simp at hy; have := HTB.out; omega))
      have TY := Lib.hid T2
      clear OX TX VX U2 T2
      by_cases h0 : r2 = 0
      · subst h0
        go_wp2_with (fail)
        refine (Word_calls _ _ _ _ _ _ TY.out).mono ?_
        rintro e w3 ⟨x, a3, hx, rfl, T3, U3⟩
        have OX := Lib.hid (OY.out.upd U3 (fun g hg => by simp at hg; omega))
        have VX := Lib.hid (VY.out.then U3 (fun y hy hlt => by simp at hy; have := HTB.out; omega))
        have TX := Lib.hid T3
        clear OY TY VY U3 T3
        have VA := Lib.hid (VX.out.alloc (.cells (nums .u32 [x]) 36))
        have TA := Lib.hid (TX.out.upd ((Upd.refl [] w3).alloc (.cells (nums .u32 [x]) 36)) (fun g hg => by simp at hg))
        have OA := Lib.hid (OX.out.upd ((Upd.refl [] w3).alloc (.cells (nums .u32 [x]) 36)) (fun g hg => by simp at hg))
        have hsz := TA.out.tb_lt
        have HNN := HN.out
        subst HNN
        clear OX VX TX
        go_wp2_with (at_builtin; refine L_app (.tmp 30) (.tmp 33) rfl (by kernel_rfl) (tb + 1) _ l rfl OA.out _ _ _ [x] rfl rfl (numsAt_new w3 .u32 [x] 36) (by simp only [List.length_cons, List.length_nil]; omega) hsz ?_)
        intro v' w9 O9 u9
        have V9 := Lib.hid (VA.out.then u9 (fun g hg hlt => by have := OA.out.lt g hg; have := HTB.out; omega))
        have T9 := Lib.hid (TA.out.upd u9 (fun g hg => by have := OA.out.lt g hg; omega))
        have H9 := Lib.hid (lt_app HL.out (lt_cons (l := []) hx (by simp)))
        have hl9 : (l ++ [x]).length ≤ k + 1 := by rw [List.length_append]; simp only [List.length_cons, List.length_nil]; omega
        obtain ⟨B9, c9, rfl, hc1, hc2, hn9, hb9⟩ := O9.words
        have O9' := Lib.hid O9
        clear hc1 hc2 hn9 hb9 O9 u9 VA TA OA hsz HL hx
        generalize l ++ [x] = R2 at O9' H9 hl9 ⊢
        obtain ⟨n2, hn2⟩ : ∃ n2, n2 = R2.length := ⟨_, rfl⟩
        rw [← hn2] at O9' hl9 ⊢
        have HN2 := Lib.hid hn2.symm
        clear hn2
        go_wp2_with (fail)
        go_roundg (n - (k + 1))
        case measure => omega
        case rel => exact ⟨k + 1, B9, c9, R2, _, n2, by go_num, by omega, rfl, rfl, hl9, HN2, O9', H9, T9, V9⟩
      · have d0 : ((r2 : Int) == 0) = false := (cast_ne_b h0).1
        clear h0
        go_wp2_with (fail)
        refine (Inst_calls _ _ _ _ _ _ TY.out).mono ?_
        rintro e w3 ⟨i, a3, hi, rfl, T3, U3⟩
        go_wp2_with (fail)
        refine (IEnc_calls i hi _).mono ?_
        rintro e w4 ⟨x, b, hx, rfl, u4⟩
        have OX := Lib.hid ((OY.out.upd U3 (fun g hg => by simp at hg; omega)).upd u4 (fun g hg => by simp at hg))
        have VX := Lib.hid ((VY.out.then U3 (fun y hy hlt => by simp at hy; have := HTB.out; omega)).trans u4)
        have TX := Lib.hid (T3.upd u4 (fun g hg => by simp at hg))
        clear OY TY VY U3 T3 u4
        have VA := Lib.hid (VX.out.alloc (.cells (nums .u32 [x]) 36))
        have TA := Lib.hid (TX.out.upd ((Upd.refl [] w4).alloc (.cells (nums .u32 [x]) 36)) (fun g hg => by simp at hg))
        have OA := Lib.hid (OX.out.upd ((Upd.refl [] w4).alloc (.cells (nums .u32 [x]) 36)) (fun g hg => by simp at hg))
        have hsz := TA.out.tb_lt
        have HNN := HN.out
        subst HNN
        clear OX VX TX
        go_wp2_with (at_builtin; refine L_app (.tmp 41) (.tmp 43) rfl (by kernel_rfl) (tb + 1) _ l rfl OA.out _ _ _ [x] rfl rfl (numsAt_new w4 .u32 [x] 36) (by simp only [List.length_cons, List.length_nil]; omega) hsz ?_)
        intro v' w9 O9 u9
        have V9 := Lib.hid (VA.out.then u9 (fun g hg hlt => by have := OA.out.lt g hg; have := HTB.out; omega))
        have T9 := Lib.hid (TA.out.upd u9 (fun g hg => by have := OA.out.lt g hg; omega))
        have H9 := Lib.hid (lt_app HL.out (lt_cons (l := []) hx (by simp)))
        have hl9 : (l ++ [x]).length ≤ k + 1 := by rw [List.length_append]; simp only [List.length_cons, List.length_nil]; omega
        obtain ⟨B9, c9, rfl, hc1, hc2, hn9, hb9⟩ := O9.words
        have O9' := Lib.hid O9
        clear hc1 hc2 hn9 hb9 O9 u9 VA TA OA hsz HL hx
        generalize l ++ [x] = R2 at O9' H9 hl9 ⊢
        obtain ⟨n2, hn2⟩ : ∃ n2, n2 = R2.length := ⟨_, rfl⟩
        rw [← hn2] at O9' hl9 ⊢
        have HN2 := Lib.hid hn2.symm
        clear hn2
        go_wp2_with (fail)
        go_roundg (n - (k + 1))
        case measure => omega
        case rel => exact ⟨k + 1, B9, c9, R2, _, n2, by go_num, by omega, rfl, rfl, hl9, HN2, O9', H9, T9, V9⟩
    · have key : ∀ z : Bool, z = z := fun z => rfl
      clear key
      have hfin : RowR n w (.returned (.slice B m cap)) wr := by
        have h1 := HN.out
        subst h1
        exact ⟨B, cap, l, rfl, OX.out.mono (by have := HTB.out; omega), HL.out, by omega, VX.out⟩
      have HF := Lib.hid hfin
      clear hfin OX HL TX VX HN
      by_cases hkn : k < n
      · have d1 : decide ((k : Int) < (n : Int)) = true := decide_eq_true (by omega)
        have haN : N ≤ a := by omega
        have d2 : decide ((a : Int) < (N : Int)) = false := decide_eq_false (by omega)
        clear hdone
        go_wp2_with (fail)
        go_ret
        exact HF.out
      · have d1 : decide ((k : Int) < (n : Int)) = false := decide_eq_false (by omega)
        clear hdone
        go_wp2_with (fail)
        go_ret
        exact HF.out
end Go.Proofs.YtggjmdgonjhioaaGreat

namespace Go.Proofs.YtggjmdgonjhioaaGreat
open Go.RowKit Go.Dio
set_option linter.unusedSimpArgs false
set_option linter.unusedVariables false

theorem info_i64k : (Tryz.prog.info? 3).map (fun i => (i.zero, i.size, i.bytes)) = some (some (.int .i64 0), 1, 8) := by kernel_rfl
set_option maxRecDepth 20000 in
set_option maxHeartbeats 4000000 in
theorem tape_calls (k : Nat) (zz : World) (hk : k ≤ 60) :
    Calls Tryz.prog 7 #[.int .i64 (k : Int)] zz fun e z' => ∃ A cap l, e = .returned (.slice A 260 cap) ∧ NumsAt z' .i64 A l ∧ l.length = 260 ∧ (∀ b o s, A = some ⟨b, o, s⟩ → b < z'.heap.size) ∧ (∀ x ∈ l, x < 211) ∧ Upd [] zz z' := by
  go_enter Tryz.func7, Tryz.ntmps7
  go_wp2_with (fail)
  go_loopw [3, 4] (fun v3 v4 wl => ∃ (i : Nat) (A : Option Addr) (n c : Nat) (l : List Nat), v4 = .int .i64 (i : Int) ∧ i ≤ 260 ∧ v3 = .slice A n c ∧ Hid (wl.ownsRow zz.heap.size 3 1 (.slice A n c) l.length (vals .i64 l) ∧ l.length = i ∧ ∀ x ∈ l, x < 211) ∧ Hid (Upd [] zz wl)) (fun _ v4 _ => 260 - (intOf v4).toNat)
  case atStart => exact ⟨0, none, 0, 0, [], rfl, by omega, rfl, Lib.hid ⟨⟨rfl, .inl ⟨rfl, rfl⟩⟩, rfl, fun x hx => by cases hx⟩, Lib.hid (Upd.refl _ _)⟩
  case round =>
    obtain ⟨i, A, n, c, l, rfl, hi, rfl, HO, HU⟩ := hrel
    rcases Nat.lt_or_ge i 260 with hlt | hge
    · have dl : decide ((i : Int) < 260) = true := decide_eq_true (by omega)
      have hp : i * i ≤ 260 * 260 := Nat.mul_le_mul (by omega) (by omega)
      have hq : i * k ≤ 260 * 60 := Nat.mul_le_mul (by omega) hk
      have m1 : (i : Int) * (i : Int) = ((i * i : Nat) : Int) := by push_cast; rfl
      have m2 : (i : Int) * (k : Int) = ((i * k : Nat) : Int) := by push_cast; rfl
      generalize i * i = p at *
      generalize i * k = q at *
      have w1 : IntKind.i64.wrap (p : Int) = (p : Int) := wrapi64 (by omega) (by omega)
      have w2 : IntKind.i64.wrap ((p : Int) * 7) = (p : Int) * 7 := wrapi64 (by omega) (by omega)
      have w3 : IntKind.i64.wrap ((k : Int) * 23) = (k : Int) * 23 := wrapi64 (by omega) (by omega)
      have w4 : IntKind.i64.wrap ((p : Int) * 7 + (k : Int) * 23) = (p : Int) * 7 + (k : Int) * 23 := wrapi64 (by omega) (by omega)
      have w5 : IntKind.i64.wrap (q : Int) = (q : Int) := wrapi64 (by omega) (by omega)
      have w6 : IntKind.i64.wrap ((p : Int) * 7 + (k : Int) * 23 + (q : Int)) = (p : Int) * 7 + (k : Int) * 23 + (q : Int) := wrapi64 (by omega) (by omega)
      obtain ⟨r, hr⟩ : ∃ r, r = (p * 7 + k * 23 + q) % 211 := ⟨_, rfl⟩
      have hr2 : r < 211 := by omega
      have w7 : ((p : Int) * 7 + (k : Int) * 23 + (q : Int)).tmod 211 = (r : Int) := by rw [Int.tmod_eq_emod_of_nonneg (by omega)]; omega
      have w8 : IntKind.i64.wrap (r : Int) = (r : Int) := wrapi64 (by omega) (by omega)
      clear hr hp hq
      have U1 := Lib.hid (HU.out.alloc (.cells (nums .i64 [r]) 3))
      have O1 := Lib.hid (own_upd HO.out.1 ((Upd.refl [] wr).alloc (.cells (nums .i64 [r]) 3)) (fun g hg hs => by simp at hs))
      have N1 := Lib.hid (numsAt_new wr .i64 [r] 3)
      have hlen := HO.out.2.1
      go_wp2_with (first
        | go_skip
        | ((with_reducible refine at_op 23 ?_); refine L_append _ (.tmp 9) (.tmp 22) 25 ?_ ?_ zz.heap.size 3 (.int .i64 0) 1 8 ?_ ?_ ?_ ?_ ?_ ?_ ?_ ?_ ?_ ?_ ?_ ?_ ?_ ?_ ?_ ?_ ?_ ?_ ?_ ?_ ?_))
      case refine_1 => rfl
      case refine_3 => exact Tryz.underlying25
      case refine_4 => exact info_i64k
      case refine_5 => rfl
      case refine_6 => decide
      case refine_11 => exact O1.out
      case refine_10 => rfl
      case refine_15 => exact vals .i64 [r]
      case refine_16 => rfl
      case refine_17 => rfl
      case refine_18 => exact srcAt_nums N1.out
      case refine_19 => exact vals_one _ _
      case refine_20 => simp only [maxLen]; omega
      case refine_21 => omega
      case refine_22 => exact U1.out.size
      intro v' w' own g1 at1
      have own2 : w'.ownsRow zz.heap.size 3 1 v' (l ++ [r]).length (vals .i64 (l ++ [r])) := by rw [vals_append, List.length_append]; exact own
      obtain ⟨A2, c2, rfl, _, _, _, _, _⟩ := nums_of_own own2
      have P2 : Hid (w'.ownsRow zz.heap.size 3 1 (.slice A2 (l ++ [r]).length c2) (l ++ [r]).length (vals .i64 (l ++ [r])) ∧ (l ++ [r]).length = i + 1 ∧ ∀ x ∈ l ++ [r], x < 211) := Lib.hid ⟨own2, by simp; omega, fun x hx => by
        rcases List.mem_append.1 hx with h | h
        · exact HO.out.2.2 x h
        · simp at h; omega⟩
      have U2 := Lib.hid (U1.out.grown g1 (fun g hg hlt2 => by have := (World.ownsRow.lt HO.out.1 g hg).1; omega))
      clear own own2 g1 at1
      obtain ⟨l2, hl2⟩ : ∃ l2, l2 = l ++ [r] := ⟨_, rfl⟩
      rw [← hl2] at P2 ⊢
      clear hl2
      go_wp2_with (fail)
      go_roundw
      case measure => simp [intOf]; omega
      case rel => exact ⟨i + 1, A2, _, c2, l2, by go_num, by omega, rfl, P2, U2⟩
    · obtain rfl : i = 260 := by omega
      obtain ⟨A2, c2, hv, hn, h1, h2, hN, hb⟩ := nums_of_own HO.out.1
      injection hv with e1 e2 e3
      subst e1 e3
      have hn2 : n = 260 := by rw [e2]; exact HO.out.2.1
      subst hn2
      have NN := Lib.hid hN
      have LL : Hid (∀ b o s, A = some ⟨b, o, s⟩ → b < wr.heap.size) := Lib.hid (fun b o s hA => by
        subst hA
        rcases HO.out.1.2 with ⟨h, _⟩ | ⟨g, cap, cur, h, _, h3, _⟩
        · cases h
        · injection h with h _ _
          injection h with h
          injection h with h _ _
          subst h
          exact lt_of_block h3)
      clear hN h1 h2 hb e2 hn
      go_wp2_with (fail)
      go_ret
      exact ⟨A, c, l, rfl, NN.out, HO.out.2.1, LL.out, HO.out.2.2, HU.out⟩
end Go.Proofs.YtggjmdgonjhioaaGreat

namespace Go.Proofs.YtggjmdgonjhioaaGreat
open Go.RowKit Go.Dio
set_option linter.unusedSimpArgs false
set_option linter.unusedVariables false

theorem ints_of_nums {w : World} {A : Option Addr} {l : List Nat} (h : NumsAt w .i64 A l) : IntsAt w A (l.map (fun n : Nat => (n : Int))) := fun h0 => by
  rw [List.length_map] at h0
  obtain ⟨b, o, hA, hb, hc⟩ := h h0
  refine ⟨b, o, hA, hb, fun i hi => ?_⟩
  rw [List.length_map] at hi
  rw [hc i hi, nth_eq l i hi]
  simp [nthZ, hi]
theorem tape_image (k : Nat) (w : World) (hk : k ≤ 60) (A : Option Addr) (cap : Nat) (l : List Nat) (hN : NumsAt w .i64 A l) (hl : l.length = 260) (hb : ∀ b o s, A = some ⟨b, o, s⟩ → b < w.heap.size) (hx : ∀ x ∈ l, x < 211) :
    Calls Tryz.prog 6 #[.slice A 260 cap] w fun e w' => RowR 776 w e w' := by
  have h := Image_calls A (l.map (fun n : Nat => (n : Int))) cap w (ints_of_nums hN) hb (by rw [List.length_map]; omega) (fun x hx2 => by
    obtain ⟨n, hn, rfl⟩ := List.mem_map.1 hx2
    have := hx n hn; omega)
  rw [List.length_map, hl] at h
  exact h
theorem tape_raw (k : Nat) (w : World) (hk : k ≤ 60) (A : Option Addr) (cap : Nat) (l : List Nat) (hN : NumsAt w .i64 A l) (hl : l.length = 260) (hb : ∀ b o s, A = some ⟨b, o, s⟩ → b < w.heap.size) (hx : ∀ x ∈ l, x < 211) :
    Calls Tryz.prog 8 #[.slice A 260 cap, .int .i64 60] w fun e w' => RowR 60 w e w' := by
  have h := Raw_calls A (l.map (fun n : Nat => (n : Int))) cap 60 w (ints_of_nums hN) hb (by rw [List.length_map]; omega) (fun x hx2 => by
    obtain ⟨n, hn, rfl⟩ := List.mem_map.1 hx2
    have := hx n hn; omega) (by decide)
  rw [List.length_map, hl] at h
  exact h
set_option maxRecDepth 20000 in
set_option maxHeartbeats 4000000 in
theorem mnumbers_walk (zz : World) :
    Calls Tryz.prog 3 #[] zz fun e z' => e = .returned (.bool true) ∧ Upd [] zz z' := by
  obtain ⟨Z, hZ, hmk0⟩ := ex_rep 1025 (by decide)
  have hmk : ∀ u : World, (Instr.makeSlice 23 (.int .i64 1025) (.int .i64 1025)).run Tryz.prog u = .ok (.slice (some ⟨u.heap.size, 0, none⟩) 1025 1025) (u.alloc (.cells (nums .u32 Z) 36)) := hmk0
  obtain ⟨Y, hY, hmk1⟩ := ex_rep 1024 (by decide)
  have hmk2 : ∀ u : World, (Instr.makeSlice 23 (.int .i64 1024) (.int .i64 1024)).run Tryz.prog u = .ok (.slice (some ⟨u.heap.size, 0, none⟩) 1024 1024) (u.alloc (.cells (nums .u32 Y) 36)) := hmk1
  have HY : Hid (Y.length = 1024 ∧ ∀ x ∈ Y, x < 2 ^ 32) := Lib.hid ⟨by rw [hY]; simp, fun x hx => by rw [hY] at hx; obtain rfl := List.eq_of_mem_replicate hx; decide⟩
  clear hmk0 hmk1 hZ hY
  go_enter Tryz.func3, Tryz.ntmps3
  go_wp2_with (fail)
  go_loopw [1] (fun v1 wl => ∃ k : Nat, v1 = .int .i64 (k : Int) ∧ k ≤ 60 ∧ Hid (Upd [] zz wl)) (fun v1 _ => 60 - (intOf v1).toNat)
  case atStart => exact ⟨0, rfl, by omega, Lib.hid (Upd.refl _ _)⟩
  case round =>
    obtain ⟨k, rfl, hk, HU⟩ := hrel
    rcases Nat.lt_or_ge k 60 with hlt | hge
    · have dl : decide ((k : Int) < 60) = true := decide_eq_true (by omega)
      go_wp2_with (fail)
      refine (tape_calls k wr hk).mono ?_
      rintro e w1 ⟨A1, c1, l1, rfl, n1, h1, b1, x1, u1⟩
      have I1 := Lib.hid (tape_image k w1 hk A1 c1 l1 n1 h1 b1 x1)
      have U1 := Lib.hid (HU.out.trans u1)
      clear n1 h1 b1 x1 u1
      go_wp2_with (fail)
      refine I1.out.mono ?_
      rintro e w2 ⟨B2, c2, l2, rfl, O2, hx2, hl2, u2⟩
      have J2 := Lib.hid (play_calls B2 l2 l2.length c2 300 w2 rfl O2.nat hx2 (by omega) (by decide))
      have U2 := Lib.hid (U1.out.trans u2)
      generalize l2.length = m2 at *
      clear O2 hx2 hl2 u2 I1
      go_wp2_with (fail)
      refine J2.out.mono ?_
      rintro e w3 ⟨rfl, u3⟩
      have U3 := Lib.hid (U2.out.trans u3)
      clear u3 J2
      go_wp2_with (fail)
      refine (tape_calls k w3 hk).mono ?_
      rintro e w4 ⟨A4, c4, l4, rfl, n4, h4, b4, x4, u4⟩
      have I4 := Lib.hid (tape_raw k w4 hk A4 c4 l4 n4 h4 b4 x4)
      have U4 := Lib.hid (U3.out.trans u4)
      clear n4 h4 b4 x4 u4
      go_wp2_with (fail)
      refine I4.out.mono ?_
      rintro e w5 ⟨B5, c5, l5, rfl, O5, hx5, hl5, u5⟩
      have J5 := Lib.hid (play_calls B5 l5 l5.length c5 60 w5 rfl O5.nat hx5 (by omega) (by decide))
      have U5 := Lib.hid (U4.out.trans u5)
      generalize l5.length = m5 at *
      clear O5 hx5 hl5 u5 I4
      go_wp2_with (fail)
      refine J5.out.mono ?_
      rintro e w6 ⟨rfl, u6⟩
      have U6 := Lib.hid (U5.out.trans u6)
      clear u6 J5
      go_wp2_with (fail)
      go_roundw
      case measure => simp [intOf]; omega
      case rel => exact ⟨k + 1, by go_num, by omega, U6⟩
    · obtain rfl : k = 60 := by omega
      go_wp2_with (fail)
      refine (play_calls none [] 0 0 5 _ rfl (numsAt_nil _ _ _) (fun x hx => by cases hx) (by decide) (by decide)).mono ?_
      rintro e w1 ⟨rfl, u1⟩
      have U1 := Lib.hid (HU.out.trans u1)
      clear u1
      go_wp2_with (fail)
      refine (play_long _ 1025 1025 5 _ (by decide)).mono ?_
      rintro e w2 ⟨rfl, u2⟩
      have U2 := Lib.hid ((U1.out.alloc (.cells (nums .u32 Z) 36)).trans u2)
      clear u2
      go_wp2_with (fail)
      refine (play_calls _ Y 1024 1024 5 _ HY.out.1.symm (numsAt_new w2 .u32 Y 36) HY.out.2 (by decide) (by decide)).mono ?_
      rintro e w3 ⟨rfl, u3⟩
      have U3 := Lib.hid ((U2.out.alloc (.cells (nums .u32 Y) 36)).trans u3)
      clear u3
      go_wp2_with (fail)
      refine (known_calls _).mono ?_
      rintro e w4 ⟨rfl, u4⟩
      have U4 := Lib.hid (U3.out.trans u4)
      clear u4
      go_wp2_with (fail)
      go_ret
      exact ⟨rfl, U4.out⟩
end Go.Proofs.YtggjmdgonjhioaaGreat
