/- Law 11, 'ModelRuns': a run is its steps. -/
import Derived.Test.YtggjmdgonjhioaaGb
import Derived.Test.YtggjmdgonjhioaaGl
import Derived.Test.YtggjmdgonjhioaaInts
import Derived.Test.YtggjmdgonjhioaaFr
import Derived.ChangeSame
import Derived.JoinedOf
import Derived.JoinedAt
namespace Go.Proofs.Ytggjmdgonjhioaa
open Go.RowKit Go.Dio
set_option linter.unusedSimpArgs false
set_option linter.unusedVariables false

theorem and3z (n : Nat) (h : n < 2 ^ 32) (h4 : n % 4 = 0) : bits .and .u32 (n : Int) 3 = 0 := by
  have h1 := and32 n 3 h (by decide)
  have h2 : n &&& 3 = 0 := by rw [show (3 : Nat) = 2 ^ 2 - 1 from rfl, Nat.and_two_pow_sub_one_eq_mod]; exact h4
  rw [h2] at h1
  exact h1
theorem arr_one (p : StV) : (p.arr.all fun x => x.oneCell') = true := by simp [StV.arr, Value.oneCell']
theorem arr_reg0 (p : StV) (hr : p.regs.length = 32) : p.arr[1]? = some (.int .u32 ((nth p.regs 0 : Nat) : Int)) := by
  rw [nth_eq p.regs 0 (by omega)]
  show (List.toArray _)[0 + 1]? = _
  rw [List.getElem?_toArray, List.getElem?_cons_succ, List.getElem?_append_left (by simp [hr])]
  simp [hr]
theorem stv_upd {s : StV} {w w' : World} (h : s.OK w) (hu : Upd [] w w') : s.OK w' := ⟨h.regs, h.csrs, h.mem.of_upd hu, h.cap, h.big⟩
theorem row_all' {w : World} {g : Nat} {a : Array Value} {t : TypeId} (h : w.heap[g]? = some (.cells a t (0, 0))) : w.rangeAt g 0 a.toList := fun j v hv => by
  rw [cells_of h, Nat.zero_add]; simpa using hv
set_option maxRecDepth 20000 in
set_option maxHeartbeats 8000000 in
theorem runs_walk (A : Option Addr) (L : List Int) (c : Nat) (n : Int) (zz : World) (hA : IntsAt zz A L) (hlt : ∀ b o s, A = some ⟨b, o, s⟩ → b < zz.heap.size) (hsm : L.length ≤ 9223372036854775807)
    (hwf : ∀ x ∈ L, -9223372036854775808 ≤ x ∧ x ≤ 9223372036854775807) (hn : -9223372036854775808 ≤ n ∧ n ≤ 9223372036854775807) :
    Calls Try.prog 3 #[.slice A L.length c, .int .i64 n] zz fun e z' => e = .returned (.bool true) ∧ Upd [] zz z' := by
  have WN := Lib.hid (fun z => Within_calls n 0 300 z (by omega) (by omega) (by omega) hn)
  have hwr := within_range (n := n) (lo := 0) (hi := 300) (by omega)
  obtain ⟨k, hk1, hk2⟩ : ∃ k : Nat, within n 0 300 = (k : Int) ∧ k ≤ 300 := ⟨(within n 0 300).toNat, by omega, by omega⟩
  rw [hk1] at WN
  clear hwr hk1
  have I := Lib.hid (Image_calls A L c zz hA hlt hsm hwf)
  generalize L.length = N at I ⊢
  clear hA hlt hsm hwf hn
  go_enter Try.func3, Try.ntmps3
  go_wp2_with (fail)
  refine I.out.mono ?_
  rintro e w1 ⟨B, cap, l, rfl, O1, hl, hlen, u1⟩
  have N1 := Lib.hid O1.nat
  have U1 := Lib.hid u1
  have HL := Lib.hid hl
  clear I O1 u1 hl
  obtain ⟨m, hm⟩ : ∃ m, m = l.length := ⟨_, rfl⟩
  rw [← hm] at hlen ⊢
  have HM := Lib.hid hm
  clear hm
  go_wp2_with (fail)
  refine (pr_new l U1.out B m cap HM.out N1.out (by omega)).mono ?_
  rintro e w2 ⟨rfl, n2, s2, M1, u2⟩
  have N2 := Lib.hid n2
  have U2 := Lib.hid u2
  have M1' := Lib.hid M1
  have S2 := Lib.hid s2
  clear n2 s2 M1 u2 N1
  go_wp2_with (fail)
  refine (pr_new l (U1.out.trans U2.out) B m cap HM.out N2.out (by omega)).mono ?_
  rintro e w3 ⟨rfl, n3, s3, M2, u3⟩
  obtain ⟨kk, pp⟩ := pr_two (m1 := 0) (m2 := 0) l U1.out M1'.out S2.out U2.out M2 s3 u3
  have K := Lib.hid kk
  have P := Lib.hid pp
  clear kk pp n3 s3 M2 u3 N2 U2 M1' S2 U1
  generalize w1.heap.size + 1 = m1 at *
  generalize w1.heap.size = g1 at *
  generalize w2.heap.size + 1 = m2 at *
  generalize w2.heap.size = g2 at *
  generalize w3.heap.size = b3 at *
  have IV := newS_inv (ns := l) (by rw [← HM.out]; omega) HL.out
  obtain ⟨s0, hs0⟩ : ∃ s0, s0 = newS l := ⟨_, rfl⟩
  have st0 : s0.trace.length = 0 := by rw [hs0]; rfl
  have ss0 : s0.steps = 0 := by rw [hs0]; rfl
  rw [← hs0] at IV P
  have IV' := Lib.hid IV
  clear hs0 HM HL IV
  go_wp2_with (fail)
  refine (WN.out _).mono ?_
  rintro e z1 ⟨rfl, rfl⟩
  go_wp2_with (fail)
  refine (pr_runA K.out P.out IV'.out k (by omega) (by omega)).mono ?_
  rintro e w4 ⟨d, rfl, hd, hj, he, p4⟩
  have HJ := Lib.hid hj
  have HE := Lib.hid he
  have P4 := Lib.hid p4
  clear hj he p4 P WN
  obtain ⟨S, hS⟩ : ∃ S, S = itS s0 d := ⟨_, rfl⟩
  rw [← hS] at P4 HE
  have HS := Lib.hid hS
  clear hS
  go_wp2_with (fail)
  go_loopw [12] (fun v12 wl => ∃ i : Nat, v12 = .int .i64 (i : Int) ∧ i ≤ d ∧ Hid (Pr zz m1 g1 m2 g2 b3 S (itS s0 i) wl)) (fun v12 _ => d - (intOf v12).toNat)
  case atStart => exact ⟨0, rfl, by omega, P4⟩
  case round =>
    obtain ⟨i, rfl, hi, PW⟩ := hrel
    rcases Nat.lt_or_ge i d with hlt | hge
    · have dl : decide ((i : Int) < (d : Int)) = true := decide_eq_true (by omega)
      have hg := itS_grow IV'.out i
      have ivi := itS_inv IV'.out i
      obtain ⟨v, rd, st, ad, dt, mk, RO⟩ := ret_ok ivi (HJ.out i hlt)
      have hcall : Hid (Calls Try.prog 9 #[.pointer (some ⟨m2, 0, none⟩)] wr fun e z' => e = .returned (.tuple #[.agg #[.int .u32 ((itS s0 i).pc : Int), .int .u32 (v : Int), .int .i64 (rd : Int), .bool st, .int .u32 (ad : Int), .int .u32 (dt : Int), .int .i64 mk], .bool true]) ∧ Pr zz m1 g1 m2 g2 b3 S (itS s0 (i + 1)) z') := Lib.hid (by
        have h := pr_stepB K.out PW.out ivi (by omega) (by omega)
        rw [HJ.out i hlt, RO.eq] at h
        exact h)
      have h32 := RO.lt
      have hz := Lib.hid RO.zero
      have hal := RO.al
      have hA2 := RO.alt
      generalize (itS s0 i).pc = pci at hcall
      clear RO ivi hg
      have d1 : decide ((rd : Int) < 0) = false := decide_eq_false (by omega)
      have d2 : decide ((31 : Int) < (rd : Int)) = false := decide_eq_false (by omega)
      go_wp2_with (fail)
      refine hcall.out.mono ?_
      rintro e z1 ⟨rfl, p5⟩
      have P5 := Lib.hid (p5.upd0 ((Upd.refl [] z1).alloc (.cells #[.int .u32 (pci : Int), .int .u32 (v : Int), .int .i64 (rd : Int), .bool st, .int .u32 (ad : Int), .int .u32 (dt : Int), .int .i64 mk] 33)))
      clear p5 hcall PW
      have q3 := and3z ad hA2 hal
      by_cases hr0 : rd = 0
      · have hv0 := hz.out hr0
        subst hr0 hv0
        cases st
        · go_wp2_with (fail)
          go_roundw
          case measure => simp [intOf]; omega
          case rel => exact ⟨i + 1, by go_num, by omega, P5⟩
        · go_wp2_with (fail)
          go_roundw
          case measure => simp [intOf]; omega
          case rel => exact ⟨i + 1, by go_num, by omega, P5⟩
      · have e0 : ((rd : Int) == 0) = false := by rw [beq_eq_false_iff_ne]; omega
        cases st
        · go_wp2_with (fail)
          go_roundw
          case measure => simp [intOf]; omega
          case rel => exact ⟨i + 1, by go_num, by omega, P5⟩
        · go_wp2_with (fail)
          go_roundw
          case measure => simp [intOf]; omega
          case rel => exact ⟨i + 1, by go_num, by omega, P5⟩
    · have hid : i = d := by omega
      subst hid
      have dl : decide ((i : Int) < (i : Int)) = false := decide_eq_false (by omega)
      have IVS : Hid (MInv S) := Lib.hid (by rw [HS.out]; exact itS_inv IV'.out i)
      have hst : S.steps = i := by rw [HS.out, itS_steps IV'.out i HJ.out, ss0, Nat.zero_add]
      have OK := Lib.hid IVS.out.ok
      go_wp2_with (fail)
      refine (one_state (PW.out.fst K.out) OK.out).mono ?_
      rintro e w5 ⟨A5, c5, rfl, ok5, u5⟩
      have S5 := Lib.hid ok5
      obtain ⟨V, hV⟩ : ∃ V : StV, V = ⟨S.pc, S.regs, S.csrs, A5, S.mem, c5⟩ := ⟨_, rfl⟩
      rw [← hV] at S5
      obtain ⟨AR, hAR⟩ : ∃ AR, AR = V.arr := ⟨_, rfl⟩
      have a1 : AR.size = 39 := by rw [hAR]; exact StV.arr_size S5.out.regs S5.out.csrs
      have a2 : (AR.all fun x => x.oneCell') = true := by rw [hAR]; exact arr_one V
      have a3 : AR[0]? = some (.int .u32 (S.pc : Int)) := by rw [hAR, StV.arr_pc, hV]
      have a4 : AR[1]? = some (.int .u32 0) := by rw [hAR, arr_reg0 V S5.out.regs, hV]; show some (Value.int .u32 ((nth S.regs 0 : Nat) : Int)) = _; rw [IVS.out.z]; rfl
      have HAR := Lib.hid hAR
      have HV := Lib.hid hV
      have T5 := Lib.hid (hl1 w5 (.cells AR 39))
      have P5 := Lib.hid (PW.out.upd0 (u5.alloc (.cells AR 39)))
      have S6 := Lib.hid (stv_upd S5.out ((Upd.refl [] w5).alloc (.cells AR 39)))
      rw [show StV.arr ⟨S.pc, S.regs, S.csrs, A5, S.mem, c5⟩ = AR by rw [hAR, hV]]
      clear hAR hV S5 u5 ok5 PW
      go_wp2_with (first
        | go_skip
        | ((with_reducible refine at_st 15 ?_); refine L_store_new 39 (.tmp 15) (.tmp 92) rfl (by kernel_rfl) _ AR rfl rfl 39 info_state rfl a1 a2 ?_))
      generalize hW : World.alloc w5 _ = W
      have hW2 : w5.alloc (.cells AR 39) = W := hW
      rw [hW2] at T5 P5 S6
      have tlt : w5.heap.size < W.heap.size := lt_of_block T5.out
      clear hW hW2
      generalize w5.heap.size = tb at *
      rw [← HS.out] at P5
      have HC := Lib.hid (one_halted (P5.out.fst K.out) OK.out)
      have HHE := HE.out
      obtain ⟨H, hH⟩ : ∃ H, H = S.halted := ⟨_, rfl⟩
      have HST : Hid (H = true → S.halted = true) := Lib.hid (fun h => by rw [← hH]; exact h)
      rw [← hH] at HC HHE
      clear hH HE
      refine HC.out.mono ?_
      rintro e w6 ⟨rfl, u6⟩
      have T6 := Lib.hid (u6.keep T5.out (by simp))
      have P6 := Lib.hid (P5.out.upd0 u6)
      have S7 := Lib.hid (stv_upd S6.out u6)
      clear T5 P5 S6 u6 HC tlt
      go_wp2_with (fail)
      have HE2 : Hid (∀ (V1 V2 : StV) (A1 A2 : Option Addr) (c1 c2 : Nat) (z : World), V1 = ⟨S.pc, S.regs, S.csrs, A1, S.mem, c1⟩ → V2 = ⟨S.pc, S.regs, S.csrs, A2, S.mem, c2⟩ → V1.OK z → V2.OK z → Calls Try.prog 12 #[.agg V1.arr, .agg V2.arr] z fun e w' => e = .returned (.bool true) ∧ Upd [] z w') := Lib.hid (fun V1 V2 A1 A2 c1 c2 z h1 h2 o1 o2 => by
        refine (RefStates_calls V1 V2 z o1 o2).mono ?_
        rintro e z' ⟨rfl, hb⟩
        refine ⟨?_, Upd.of_below hb⟩
        rw [h1, h2]
        simp [stEq])
      have HSTP : Hid (∀ z, One zz m1 g1 b3 S z → Calls Try.prog 13 #[.pointer (some ⟨m1, 0, none⟩)] z fun e z' => e = .returned (.int .i64 (i : Int)) ∧ z' = z) := Lib.hid (fun z h => by
        have h2 := one_steps h OK.out
        rw [hst] at h2
        exact h2)
      cases H
      · obtain rfl : i = k := by rcases HHE with h | h; exact h; cases h
        clear HHE
        refine wp_region_plan (fun z => ∃ x : Near [] w6, z = x.1) [([0, 1], 2), ([], 3), ([4, 5, 6, 7, 8, 9, 10, 11, 12, 13, 14, 15, 16, 17, 19], 18), ([20, 21, 22, 23, 24, 25, 26, 27, 28, 29, 30, 31, 32, 33, 34], 35), ([36, 37, 38, 40], 39), ([], 41), ([42, 43, 44, 45], 46)] [47, 48] (by kernel_rfl) (by kernel_rfl) (by kernel_rfl) (by kernel_rfl) (fun _ d _ _ _ h => by cases d <;> exact h) ⟨⟨(w6).drew, (Upd.refl _ _).drew⟩, rfl⟩ ?_
        refine plan_next ?_
        simp only [opsAt, List.map_cons, List.map_nil, List.getElem?_toArray, List.getElem?_cons_zero, List.getElem?_cons_succ, Option.getD_some]
        repeat (first
          | go_big_quiet_step (fail)
          | (refine Q_load 39 (.tmp 15) rfl (by kernel_rfl) _ _ rfl AR (by rintro _ ⟨y, rfl⟩; exact row_all' (y.2.keep T6.out (by simp))) Try.underlying39 rfl 39 info_state a1 ?_; go_simp))
        refine wpQuiet_nil ?_
        refine plan_one rfl ?_
        go_wp2_with fail
        refine (one_state ((P6.out.snd K.out).upd0 ((Upd.refl [] w6).drew)) OK.out).mono ?_
        rintro e w7 ⟨A7, c7, rfl, ok7, u7⟩
        obtain ⟨V7, hV7⟩ : ∃ V7 : StV, V7 = ⟨S.pc, S.regs, S.csrs, A7, S.mem, c7⟩ := ⟨_, rfl⟩
        rw [← hV7] at ok7 ⊢
        have OK7 := Lib.hid ok7
        have HV7 := Lib.hid hV7
        have U7 := Lib.hid (((Upd.refl [] w6).drew).trans u7)
        clear ok7 hV7 u7
        go_wp2_with fail
        refine plan_same ⟨⟨_, U7.out⟩, rfl⟩ ?_
        refine plan_next ?_
        simp only [opsAt, List.map_cons, List.map_nil, List.getElem?_toArray, List.getElem?_cons_zero, List.getElem?_cons_succ, Option.getD_some]
        repeat (go_big_quiet_step (fail))
        refine wpQuiet_nil ?_
        refine plan_one rfl ?_
        go_wp2_with fail
        have ST := HE2.out V V7 A5 A7 c5 c7 _ HV.out HV7.out (stv_upd S7.out U7.out) OK7.out
        rw [← HAR.out] at ST
        refine ST.mono ?_
        rintro e w8 ⟨rfl, u8⟩
        have U8 := Lib.hid (U7.out.trans u8)
        clear ST u8 U7
        go_wp2_with fail
        refine plan_same ⟨⟨_, U8.out⟩, rfl⟩ ?_
        have q3 := and3z S.pc OK.out.pc IVS.out.al
        have n0 : ∀ x : Near [] w6, x.1.cell? ⟨tb, 0, none⟩ = some (.int .u32 (S.pc : Int)) := fun x => by rw [cells_of (x.2.keep T6.out (by simp))]; exact a3
        have n1 : ∀ x : Near [] w6, x.1.cell? ⟨tb, 1, none⟩ = some (.int .u32 0) := fun x => by rw [cells_of (x.2.keep T6.out (by simp))]; exact a4
        refine plan_next ?_
        simp only [opsAt, List.map_cons, List.map_nil, List.getElem?_toArray, List.getElem?_cons_zero, List.getElem?_cons_succ, Option.getD_some]
        repeat (go_big_quiet_step (fail))
        refine wpQuiet_nil ?_
        refine plan_one rfl ?_
        go_wp2_with fail
        refine (HSTP.out _ ((P6.out.fst K.out).upd0 U8.out)).mono ?_
        rintro e z1 ⟨rfl, rfl⟩
        go_wp2_with fail
        refine plan_same ⟨⟨_, U8.out⟩, rfl⟩ ?_
        refine plan_next ?_
        simp only [opsAt, List.map_cons, List.map_nil, List.getElem?_toArray, List.getElem?_cons_zero, List.getElem?_cons_succ, Option.getD_some]
        repeat (go_big_quiet_step (fail))
        refine wpQuiet_nil ?_
        refine plan_one rfl ?_
        go_wp2_with fail
        refine plan_same ⟨⟨_, U8.out⟩, rfl⟩ ?_
        refine plan_next ?_
        simp only [opsAt, List.map_cons, List.map_nil, List.getElem?_toArray, List.getElem?_cons_zero, List.getElem?_cons_succ, Option.getD_some]
        repeat (go_big_quiet_step (fail))
        refine wpQuiet_nil ?_
        refine plan_one rfl ?_
        go_wp2_with fail
        all_goals (try (rename_i h1 h2; exfalso; simp [undef] at h1; done))
        refine plan_same ⟨⟨_, U8.out⟩, rfl⟩ ?_
        refine plan_next ?_
        simp only [opsAt, List.map_cons, List.map_nil, List.getElem?_toArray, List.getElem?_cons_zero, List.getElem?_cons_succ, Option.getD_some]
        repeat (go_big_quiet_step (fail))
        refine wpQuiet_nil ?_
        refine plan_one rfl ?_
        go_wp2_with fail
        all_goals (try (rename_i h1 h2; exfalso; simp [undef] at h1; done))
        refine plan_same ⟨⟨_, U8.out⟩, rfl⟩ ?_
        refine plan_next ?_
        simp only [opsAt, List.map_cons, List.map_nil, List.getElem?_toArray, List.getElem?_cons_zero, List.getElem?_cons_succ, Option.getD_some]
        repeat (go_big_quiet_step (fail))
        refine wpQuiet_nil ?_
        refine plan_one rfl ?_
        go_wp2_with fail
        all_goals (try (rename_i h1 h2; exfalso; simp [undef] at h1; done))
        refine (known_calls _).mono ?_
        rintro e w9 ⟨rfl, u9⟩
        have U9 := Lib.hid (U8.out.trans u9)
        go_wp2_with fail
        refine plan_same ⟨⟨_, U9.out⟩, rfl⟩ ?_
        refine plan_last ?_
        simp only [opsAt, List.map_cons, List.map_nil, List.getElem?_toArray, List.getElem?_cons_zero, List.getElem?_cons_succ, Option.getD_some]
        repeat (go_big_quiet_step (fail))
        refine wpQuiet_nil ?_
        unfold planEnd
        go_wp2_with fail
        go_ret
        exact ⟨rfl, P6.out.upd.trans U9.out⟩
      · have RUN9 : Hid (∀ z, One zz m1 g1 b3 S z → Calls Try.prog 8 #[.pointer (some ⟨m1, 0, none⟩), .int .i64 9] z fun e z' => e = .returned (.int .i64 0) ∧ Upd [] z z') := Lib.hid (fun z h => one_run_stay h OK.out (HST.out rfl) 9)
        clear HHE
        by_cases hik : i = k
        · subst hik
          refine wp_region_plan (fun z => ∃ x : Near [] w6, z = x.1) [([0, 1], 2), ([], 3), ([4, 5, 6, 7, 8, 9, 10, 11, 12, 13, 14, 15, 16, 17, 19], 18), ([20, 21, 22, 23, 24, 25, 26, 27, 28, 29, 30, 31, 32, 33, 34], 35), ([36, 37, 38, 40], 39), ([], 41), ([42, 43, 44, 45], 46)] [47, 48] (by kernel_rfl) (by kernel_rfl) (by kernel_rfl) (by kernel_rfl) (fun _ d _ _ _ h => by cases d <;> exact h) ⟨⟨(w6).drew, (Upd.refl _ _).drew⟩, rfl⟩ ?_
          refine plan_next ?_
          simp only [opsAt, List.map_cons, List.map_nil, List.getElem?_toArray, List.getElem?_cons_zero, List.getElem?_cons_succ, Option.getD_some]
          repeat (first
            | go_big_quiet_step (fail)
            | (refine Q_load 39 (.tmp 15) rfl (by kernel_rfl) _ _ rfl AR (by rintro _ ⟨y, rfl⟩; exact row_all' (y.2.keep T6.out (by simp))) Try.underlying39 rfl 39 info_state a1 ?_; go_simp))
          refine wpQuiet_nil ?_
          refine plan_one rfl ?_
          go_wp2_with fail
          refine (one_state ((P6.out.snd K.out).upd0 ((Upd.refl [] w6).drew)) OK.out).mono ?_
          rintro e w7 ⟨A7, c7, rfl, ok7, u7⟩
          obtain ⟨V7, hV7⟩ : ∃ V7 : StV, V7 = ⟨S.pc, S.regs, S.csrs, A7, S.mem, c7⟩ := ⟨_, rfl⟩
          rw [← hV7] at ok7 ⊢
          have OK7 := Lib.hid ok7
          have HV7 := Lib.hid hV7
          have U7 := Lib.hid (((Upd.refl [] w6).drew).trans u7)
          clear ok7 hV7 u7
          go_wp2_with fail
          refine plan_same ⟨⟨_, U7.out⟩, rfl⟩ ?_
          refine plan_next ?_
          simp only [opsAt, List.map_cons, List.map_nil, List.getElem?_toArray, List.getElem?_cons_zero, List.getElem?_cons_succ, Option.getD_some]
          repeat (go_big_quiet_step (fail))
          refine wpQuiet_nil ?_
          refine plan_one rfl ?_
          go_wp2_with fail
          have ST := HE2.out V V7 A5 A7 c5 c7 _ HV.out HV7.out (stv_upd S7.out U7.out) OK7.out
          rw [← HAR.out] at ST
          refine ST.mono ?_
          rintro e w8 ⟨rfl, u8⟩
          have U8 := Lib.hid (U7.out.trans u8)
          clear ST u8 U7
          go_wp2_with fail
          refine plan_same ⟨⟨_, U8.out⟩, rfl⟩ ?_
          have q3 := and3z S.pc OK.out.pc IVS.out.al
          have n0 : ∀ x : Near [] w6, x.1.cell? ⟨tb, 0, none⟩ = some (.int .u32 (S.pc : Int)) := fun x => by rw [cells_of (x.2.keep T6.out (by simp))]; exact a3
          have n1 : ∀ x : Near [] w6, x.1.cell? ⟨tb, 1, none⟩ = some (.int .u32 0) := fun x => by rw [cells_of (x.2.keep T6.out (by simp))]; exact a4
          refine plan_next ?_
          simp only [opsAt, List.map_cons, List.map_nil, List.getElem?_toArray, List.getElem?_cons_zero, List.getElem?_cons_succ, Option.getD_some]
          repeat (go_big_quiet_step (fail))
          refine wpQuiet_nil ?_
          refine plan_one rfl ?_
          go_wp2_with fail
          refine (HSTP.out _ ((P6.out.fst K.out).upd0 U8.out)).mono ?_
          rintro e z1 ⟨rfl, rfl⟩
          go_wp2_with fail
          refine plan_same ⟨⟨_, U8.out⟩, rfl⟩ ?_
          refine plan_next ?_
          simp only [opsAt, List.map_cons, List.map_nil, List.getElem?_toArray, List.getElem?_cons_zero, List.getElem?_cons_succ, Option.getD_some]
          repeat (go_big_quiet_step (fail))
          refine wpQuiet_nil ?_
          refine plan_one rfl ?_
          go_wp2_with fail
          refine (RUN9.out _ ((P6.out.fst K.out).upd0 U8.out)).mono ?_
          rintro e wa ⟨rfl, ua⟩
          have UA := Lib.hid (U8.out.trans ua)
          clear ua
          go_wp2_with fail
          refine plan_same ⟨⟨_, UA.out⟩, rfl⟩ ?_
          refine plan_next ?_
          simp only [opsAt, List.map_cons, List.map_nil, List.getElem?_toArray, List.getElem?_cons_zero, List.getElem?_cons_succ, Option.getD_some]
          repeat (first
            | go_big_quiet_step (fail)
            | (refine Q_load 39 (.tmp 15) rfl (by kernel_rfl) _ _ rfl AR (by rintro _ ⟨y, rfl⟩; exact row_all' (y.2.keep T6.out (by simp))) Try.underlying39 rfl 39 info_state a1 ?_; go_simp))
          refine wpQuiet_nil ?_
          refine plan_one rfl ?_
          go_wp2_with fail
          refine (one_state ((P6.out.fst K.out).upd0 UA.out) OK.out).mono ?_
          rintro e wb ⟨Ab, cb, rfl, okb, ub⟩
          obtain ⟨Vb, hVb⟩ : ∃ Vb : StV, Vb = ⟨S.pc, S.regs, S.csrs, Ab, S.mem, cb⟩ := ⟨_, rfl⟩
          rw [← hVb] at okb ⊢
          have OKB := Lib.hid okb
          have HVB := Lib.hid hVb
          have UB := Lib.hid (UA.out.trans ub)
          clear okb hVb ub UA
          go_wp2_with fail
          refine plan_same ⟨⟨_, UB.out⟩, rfl⟩ ?_
          refine plan_next ?_
          simp only [opsAt, List.map_cons, List.map_nil, List.getElem?_toArray, List.getElem?_cons_zero, List.getElem?_cons_succ, Option.getD_some]
          repeat (go_big_quiet_step (fail))
          refine wpQuiet_nil ?_
          refine plan_one rfl ?_
          go_wp2_with fail
          have SU := HE2.out Vb V Ab A5 cb c5 _ HVB.out HV.out OKB.out (stv_upd S7.out UB.out)
          rw [← HAR.out] at SU
          refine SU.mono ?_
          rintro e wc ⟨rfl, uc⟩
          have UC := Lib.hid (UB.out.trans uc)
          clear SU uc UB
          go_wp2_with fail
          refine plan_same ⟨⟨_, UC.out⟩, rfl⟩ ?_
          refine plan_next ?_
          simp only [opsAt, List.map_cons, List.map_nil, List.getElem?_toArray, List.getElem?_cons_zero, List.getElem?_cons_succ, Option.getD_some]
          repeat (go_big_quiet_step (fail))
          refine wpQuiet_nil ?_
          refine plan_one rfl ?_
          go_wp2_with fail
          refine (known_calls _).mono ?_
          rintro e w9 ⟨rfl, u9⟩
          have U9 := Lib.hid (UC.out.trans u9)
          go_wp2_with fail
          refine plan_same ⟨⟨_, U9.out⟩, rfl⟩ ?_
          refine plan_last ?_
          simp only [opsAt, List.map_cons, List.map_nil, List.getElem?_toArray, List.getElem?_cons_zero, List.getElem?_cons_succ, Option.getD_some]
          repeat (go_big_quiet_step (fail))
          refine wpQuiet_nil ?_
          unfold planEnd
          go_wp2_with fail
          go_ret
          exact ⟨rfl, P6.out.upd.trans U9.out⟩
        · have e1 : ((i : Int) == (k : Int)) = false := by rw [beq_eq_false_iff_ne]; omega
          refine wp_region_plan (fun z => ∃ x : Near [] w6, z = x.1) [([0, 1], 2), ([], 3), ([4, 5, 6, 7, 8, 9, 10, 11, 12, 13, 14, 15, 16, 17, 19], 18), ([20, 21, 22, 23, 24, 25, 26, 27, 28, 29, 30, 31, 32, 33, 34], 35), ([36, 37, 38, 40], 39), ([], 41), ([42, 43, 44, 45], 46)] [47, 48] (by kernel_rfl) (by kernel_rfl) (by kernel_rfl) (by kernel_rfl) (fun _ d _ _ _ h => by cases d <;> exact h) ⟨⟨(w6).drew, (Upd.refl _ _).drew⟩, rfl⟩ ?_
          refine plan_next ?_
          simp only [opsAt, List.map_cons, List.map_nil, List.getElem?_toArray, List.getElem?_cons_zero, List.getElem?_cons_succ, Option.getD_some]
          repeat (first
            | go_big_quiet_step (fail)
            | (refine Q_load 39 (.tmp 15) rfl (by kernel_rfl) _ _ rfl AR (by rintro _ ⟨y, rfl⟩; exact row_all' (y.2.keep T6.out (by simp))) Try.underlying39 rfl 39 info_state a1 ?_; go_simp))
          refine wpQuiet_nil ?_
          refine plan_one rfl ?_
          go_wp2_with fail
          refine (one_state ((P6.out.snd K.out).upd0 ((Upd.refl [] w6).drew)) OK.out).mono ?_
          rintro e w7 ⟨A7, c7, rfl, ok7, u7⟩
          obtain ⟨V7, hV7⟩ : ∃ V7 : StV, V7 = ⟨S.pc, S.regs, S.csrs, A7, S.mem, c7⟩ := ⟨_, rfl⟩
          rw [← hV7] at ok7 ⊢
          have OK7 := Lib.hid ok7
          have HV7 := Lib.hid hV7
          have U7 := Lib.hid (((Upd.refl [] w6).drew).trans u7)
          clear ok7 hV7 u7
          go_wp2_with fail
          refine plan_same ⟨⟨_, U7.out⟩, rfl⟩ ?_
          refine plan_next ?_
          simp only [opsAt, List.map_cons, List.map_nil, List.getElem?_toArray, List.getElem?_cons_zero, List.getElem?_cons_succ, Option.getD_some]
          repeat (go_big_quiet_step (fail))
          refine wpQuiet_nil ?_
          refine plan_one rfl ?_
          go_wp2_with fail
          have ST := HE2.out V V7 A5 A7 c5 c7 _ HV.out HV7.out (stv_upd S7.out U7.out) OK7.out
          rw [← HAR.out] at ST
          refine ST.mono ?_
          rintro e w8 ⟨rfl, u8⟩
          have U8 := Lib.hid (U7.out.trans u8)
          clear ST u8 U7
          go_wp2_with fail
          refine plan_same ⟨⟨_, U8.out⟩, rfl⟩ ?_
          have q3 := and3z S.pc OK.out.pc IVS.out.al
          have n0 : ∀ x : Near [] w6, x.1.cell? ⟨tb, 0, none⟩ = some (.int .u32 (S.pc : Int)) := fun x => by rw [cells_of (x.2.keep T6.out (by simp))]; exact a3
          have n1 : ∀ x : Near [] w6, x.1.cell? ⟨tb, 1, none⟩ = some (.int .u32 0) := fun x => by rw [cells_of (x.2.keep T6.out (by simp))]; exact a4
          refine plan_next ?_
          simp only [opsAt, List.map_cons, List.map_nil, List.getElem?_toArray, List.getElem?_cons_zero, List.getElem?_cons_succ, Option.getD_some]
          repeat (go_big_quiet_step (fail))
          refine wpQuiet_nil ?_
          refine plan_one rfl ?_
          go_wp2_with fail
          refine (HSTP.out _ ((P6.out.fst K.out).upd0 U8.out)).mono ?_
          rintro e z1 ⟨rfl, rfl⟩
          go_wp2_with fail
          refine plan_same ⟨⟨_, U8.out⟩, rfl⟩ ?_
          refine plan_next ?_
          simp only [opsAt, List.map_cons, List.map_nil, List.getElem?_toArray, List.getElem?_cons_zero, List.getElem?_cons_succ, Option.getD_some]
          repeat (go_big_quiet_step (fail))
          refine wpQuiet_nil ?_
          refine plan_one rfl ?_
          go_wp2_with fail
          refine (RUN9.out _ ((P6.out.fst K.out).upd0 U8.out)).mono ?_
          rintro e wa ⟨rfl, ua⟩
          have UA := Lib.hid (U8.out.trans ua)
          clear ua
          go_wp2_with fail
          refine plan_same ⟨⟨_, UA.out⟩, rfl⟩ ?_
          refine plan_next ?_
          simp only [opsAt, List.map_cons, List.map_nil, List.getElem?_toArray, List.getElem?_cons_zero, List.getElem?_cons_succ, Option.getD_some]
          repeat (first
            | go_big_quiet_step (fail)
            | (refine Q_load 39 (.tmp 15) rfl (by kernel_rfl) _ _ rfl AR (by rintro _ ⟨y, rfl⟩; exact row_all' (y.2.keep T6.out (by simp))) Try.underlying39 rfl 39 info_state a1 ?_; go_simp))
          refine wpQuiet_nil ?_
          refine plan_one rfl ?_
          go_wp2_with fail
          refine (one_state ((P6.out.fst K.out).upd0 UA.out) OK.out).mono ?_
          rintro e wb ⟨Ab, cb, rfl, okb, ub⟩
          obtain ⟨Vb, hVb⟩ : ∃ Vb : StV, Vb = ⟨S.pc, S.regs, S.csrs, Ab, S.mem, cb⟩ := ⟨_, rfl⟩
          rw [← hVb] at okb ⊢
          have OKB := Lib.hid okb
          have HVB := Lib.hid hVb
          have UB := Lib.hid (UA.out.trans ub)
          clear okb hVb ub UA
          go_wp2_with fail
          refine plan_same ⟨⟨_, UB.out⟩, rfl⟩ ?_
          refine plan_next ?_
          simp only [opsAt, List.map_cons, List.map_nil, List.getElem?_toArray, List.getElem?_cons_zero, List.getElem?_cons_succ, Option.getD_some]
          repeat (go_big_quiet_step (fail))
          refine wpQuiet_nil ?_
          refine plan_one rfl ?_
          go_wp2_with fail
          have SU := HE2.out Vb V Ab A5 cb c5 _ HVB.out HV.out OKB.out (stv_upd S7.out UB.out)
          rw [← HAR.out] at SU
          refine SU.mono ?_
          rintro e wc ⟨rfl, uc⟩
          have UC := Lib.hid (UB.out.trans uc)
          clear SU uc UB
          go_wp2_with fail
          refine plan_same ⟨⟨_, UC.out⟩, rfl⟩ ?_
          refine plan_next ?_
          simp only [opsAt, List.map_cons, List.map_nil, List.getElem?_toArray, List.getElem?_cons_zero, List.getElem?_cons_succ, Option.getD_some]
          repeat (go_big_quiet_step (fail))
          refine wpQuiet_nil ?_
          refine plan_one rfl ?_
          go_wp2_with fail
          refine (known_calls _).mono ?_
          rintro e w9 ⟨rfl, u9⟩
          have U9 := Lib.hid (UC.out.trans u9)
          go_wp2_with fail
          refine plan_same ⟨⟨_, U9.out⟩, rfl⟩ ?_
          refine plan_last ?_
          simp only [opsAt, List.map_cons, List.map_nil, List.getElem?_toArray, List.getElem?_cons_zero, List.getElem?_cons_succ, Option.getD_some]
          repeat (go_big_quiet_step (fail))
          refine wpQuiet_nil ?_
          unfold planEnd
          go_wp2_with fail
          go_ret
          exact ⟨rfl, P6.out.upd.trans U9.out⟩
end Go.Proofs.Ytggjmdgonjhioaa

namespace Go.Proofs.Ytggjmdgonjhioaa.mruns
open Go.ChangeShapes Go.WideShapes Go.ChangeAt Go.RowKit Go.Dio
set_option linter.unusedVariables false
set_option linter.unusedSimpArgs false

theorem shape_lt {w : World} {b : Nat} {r : TypeId × Nat} (h : w.shape? b = some r) : b < w.heap.size := by
  rcases Nat.lt_or_ge b w.heap.size with h0 | h0
  · exact h0
  · have e : w.heap[b]? = none := by rw [Array.getElem?_eq_none_iff]; exact h0
    simp [World.shape?, e] at h
theorem okWide_lt {P : Program} {w : World} {r : Reach} {base len cap : Nat} {t e : TypeId} {A : Option Addr} (ht : P.underlying t = some (.slice e)) (h : Value.okWide P w r base t (.slice A len cap)) : ∀ b o s, A = some ⟨b, o, s⟩ → b < w.heap.size := fun b o s hA => by
  subst hA
  simp only [Value.okWide, ht, Cell.okWide, Cell.ok] at h
  obtain ⟨_, _, _, _, row, cells, hs, _⟩ := h
  exact shape_lt hs
theorem wf_range {l : List Int} (h : ∀ x ∈ l, (Lit.int .i64 x).wf = true) : ∀ x ∈ l, -9223372036854775808 ≤ x ∧ x ≤ 9223372036854775807 := fun x hx => by
  simpa [Lit.wf, IntKind.min, IntKind.max, IntKind.signed, IntKind.bits] using h x hx
set_option maxRecDepth 20000 in
theorem contract (H : Type) (enc : TypeId × Value → H) (W : World) (base : Nat) (args : Array Value) (ds gs : List (DataW H)) (before : List MemPlace)
    (hval : ∀ (j : Nat) t v, Try.f3.params[j]? = some t → args[j]? = some v → Value.okWide Try.prog W .any base t v)
    (hW : DataW.Whole enc Try.prog Try.f3.params.toList Rows.modelRunsSpec.vars false W args.toList ds gs before) :
    Calls Try.prog 3 args W fun e W' => ∃ v, e = .returned v ∧ Rows.modelRunsSpec.post enc Try.prog Try.f3 false true false false W args v W' := by
  have hW' := hW
  obtain ⟨p, q, hA0, hV, rfl, hfz, hnd⟩ := hW
  have hA : DataW.TrodAll enc Try.prog W 0 (fun _ => true) true Try.f3.params.toList args.toList ds p := hA0
  rw [Try.params3] at hA hval
  obtain ⟨v0, vs0, d0, ds0, p0, q0, hargs, rfl, rfl, h0, r0⟩ := trodAll_cons hA
  obtain ⟨v1, vs1, d1, ds1, p1, q1, rfl, rfl, rfl, h1, r1⟩ := trodAll_cons r0
  obtain ⟨rfl, rfl, rfl⟩ := trodAll_nil r1
  obtain rfl : args = #[v0, v1] := by cases args; simp_all
  obtain ⟨rfl, rfl⟩ := trodVars_none hV
  obtain ⟨a0, len0, cap0, rfl⟩ := okWide_slice Try.underlying22 (hval 0 22 v0 rfl rfl)
  have lt0 := okWide_lt Try.underlying22 (hval 0 22 _ rfl rfl)
  obtain ⟨l0, n0, rfl, c0, m0, wf0, _⟩ := fr.open_ints' Try.underlying22 Try.underlying3 (by kernel_rfl) h0
  obtain ⟨x, rfl, rfl, rfl, wx⟩ := open_int Try.underlying3 (hval 1 3 v1 rfl rfl) h1
  refine (runs_walk a0 l0 cap0 x W n0 lt0 (by omega) (wf_range wf0) (by simpa [Lit.wf, IntKind.min, IntKind.max, IntKind.signed, IntKind.bits] using wx)).mono fun e W' ⟨he, bel⟩ => ?_
  subst he
  exact ⟨_, rfl, fr.post_true fr.laidOut (by kernel_rfl) rfl hW' bel.below 4 rfl Try.underlying4 rfl rfl rfl⟩

set_option maxRecDepth 100000 in
theorem lifted (os : Os) (started : os.Started) (H : Type) (enc : TypeId × Value → H) :
    ReturnsInHanded {} Try.checked os 3 .any (Rows.modelRunsSpec.pre6 enc Try.prog Try.f3 Rows.modelRunsRow.domain false) (Rows.modelRunsSpec.post enc Try.prog Try.f3 false true false false) := by
  refine returnsInHanded_of_change (C := Try.checked) fr.own started (by kernel_rfl) Try.func3
    (ChangeSpec.witness6 (enc := enc) (C := Try.checked) false ⟨#[], #[.slice none 0 0, .int .i64 0], []⟩ 8 (by kernel_rfl) (by kernel_rfl) (by kernel_rfl) (by kernel_rfl)) ?_
  intro W base args ds gs before hval hW _ _
  exact contract H enc W base args ds gs before hval hW

theorem proved : Rows.ModelRunsSaid :=
  OpenClaim.holds_of_wide 3 Try.f3 rfl rfl rfl rfl rfl rfl rfl ⟨rfl, rfl, rfl, rfl, rfl⟩ rfl rfl rfl rfl rfl (by kernel_rfl) Try.func3 (by kernel_rfl)
    (of_decide_eq_true (by kernel_rfl)) (by unfold Func.isWrapper; first | (rw [if_pos (by decide +kernel)]; kernel_rfl) | (rw [if_neg (by decide +kernel)]; exact ⟨rfl, rfl⟩))
    (fun os started H enc _ => lifted os started H enc)
#print axioms proved
end Go.Proofs.Ytggjmdgonjhioaa.mruns
