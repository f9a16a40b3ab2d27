/- Law 13: play. -/
import Derived.Test.YtfnemolaoijbhacDoorEnvR
import Derived.Test.YtfnemolaoijbhacDoorAsk4
import Derived.Test.YtfnemolaoijbhacDoorMem5
import Derived.Deep.LoopGhost
namespace Go.Proofs.YtfnemolaoijbhacDoor
open Go.RowKit Go.Dio
set_option linter.unusedSimpArgs false
set_option linter.unusedVariables false

theorem mloadL_len (l : List Nat) (v : Nat) : (mloadL l v).length = l.length := by unfold mloadL; split; rfl; exact getL_len _ _
theorem mstoreL_len (l : List Nat) (v d : Nat) (m : Int) : (mstoreL l v d m).length = l.length := by
  unfold mstoreL; split; rfl; split; exact getL_len _ _; exact (putL_len _ _ _).trans (getL_len _ _)
theorem mloadF_le (l : List Nat) (v : Nat) : mloadF l v ≤ 1 := by unfold mloadF getF; split; omega; split <;> omega
theorem clampN (n : Int) : ∃ N : Nat, (N : Int) = max 0 (min n 1024) ∧ N ≤ 1024 := ⟨(max 0 (min n 1024)).toNat, by omega, by omega⟩
theorem neq_self (n : Nat) : ((n : Int) != (n : Int)) = false := by simp

set_option maxRecDepth 20000 in
set_option maxHeartbeats 4000000 in
theorem play13_calls (A : Option Addr) (ns : List Nat) (c : Nat) (B : Option Addr) (asks : List Ask4V) (c2 : Nat) (w : World) (hA : NumsAt w .u32 A ns) (hs : ∀ x ∈ ns, x < 2 ^ 32) (hln : ns.length ≤ 9223372036854775807) (hB : Asks4At w B asks) (hk : Asks4Ok asks) (hlc : asks.length ≤ 9223372036854775807) (hT : Tz w) :
    Calls Tryd.prog 24 #[.slice A ns.length c, .slice B asks.length c2] w fun e w' => e = .returned (.bool true) ∧ Below w.heap.size w w' := by
  rcases Nat.lt_or_ge 1024 ns.length with hlen | hlen
  · have M1 := Lib.hid (MNew_long A ns.length c w hlen hln)
    have M2 := Lib.hid (RMNew_long A ns.length c w hlen hln)
    clear hA hs hB hk hT
    generalize ns.length = N at *
    go_enter Tryd.func24, Tryd.ntmps24
    go_wp2_with (fail)
    refine M1.out.mono ?_
    rintro e w' ⟨rfl, rfl⟩
    go_wp2_with (fail)
    refine M2.out.mono ?_
    rintro e w' ⟨rfl, rfl⟩
    go_wp2_with (fail)
    go_ret
    exact ⟨rfl, Below.refl _ _⟩
  · have N1 := Lib.hid (E_mnew (Env.none hT) A ns c hA hs hlen)
    have N2 := Lib.hid fun As w1 (h : Env w As w1) => E_rmnew h A ns c (hA.of_upd h.upd) hs hlen
    have HL0 := Lib.hid (newL_len ns)
    generalize newL ns = l0 at N1 N2 HL0
    have HB := Lib.hid hB
    have HS := Lib.hid hk
    have HT := Lib.hid hT
    have hu : ∀ As w', Env w As w' → Below w.heap.size w w' := fun _ _ h => h.below
    have HU := Lib.hid hu
    clear hA hs hB hk hu hT
    generalize ns.length = N at *
    generalize w.heap.size + 2 = mb at N1
    generalize w.heap.size + 1 = b at N1
    generalize w.heap.size = d at N1 HU ⊢
    go_enter Tryd.func24, Tryd.ntmps24
    go_wp2_with (fail)
    refine N1.out.mono ?_
    rintro e w1 ⟨rfl, H⟩
    go_wp2_with (fail)
    refine (N2.out _ _ H).mono ?_
    rintro e w2 ⟨rfl, H'⟩
    clear H N1 N2
    generalize w1.heap.size + 2 = mb' at H' ⊢
    generalize w1.heap.size + 1 = b' at H'
    generalize w1.heap.size = d' at H'
    have H := Lib.hid H'
    clear H'
    go_wp2_with (fail)
    go_loopg [8] 100 (fun g v8 wl => ∃ (i at' f : Nat) (l : List Nat), v8 = .int .i64 (i : Int) ∧ at' < 1024 ∧ i ≤ 100 ∧ g = 100 - i ∧ Hid (l.length = 1024) ∧ f ≤ 1024 * i ∧ Hid (Env w [rmemA mb' b' d' l f at', memA mb b d l f at'] wl))
    case atStart => exact ⟨0, 0, 0, l0, rfl, by omega, by omega, rfl, HL0, by omega, H⟩
    case round =>
      clear H HL0
      obtain ⟨i, at', f, l, rfl, hat, hi, hg, HL, hf, H⟩ := hrel
      rcases (by omega : (i < 100 ∧ i < asks.length) ∨ (asks.length ≤ i ∨ (i = 100 ∧ i < asks.length))) with ⟨hi80, hia⟩ | hend
      · obtain ⟨ba, oa, rfl, hba, hca⟩ := HB.out (by omega)
        have hq := hca i hia
        have k0 := hq 0 (.int .i64 (ask4N asks i).kind) rfl
        have k1 := hq 1 (.int .i64 (ask4N asks i).n) rfl
        have k2 := hq 2 (.int .u32 ((ask4N asks i).u : Int)) rfl
        have k3 := hq 3 (.int .u32 ((ask4N asks i).v : Int)) rfl
        have hn := HS.out i
        clear hq hca
        generalize ask4N asks i = a at k0 k1 k2 k3 hn
        obtain ⟨kd, an, au, av⟩ := a
        simp only at k0 k1 k2 k3
        obtain ⟨hu1, hv1, hn2, hn3⟩ := hn
        simp only at hu1 hv1 hn2
        have eqc : ∀ o, wr.cell? ⟨ba, o, none⟩ = w.cell? ⟨ba, o, none⟩ := fun o => World.cell?_of_block (w := w) (H.out.upd.block ba hba (by simp))
        rw [← eqc] at k0 k1 k2 k3
        rw [Nat.add_zero] at k0
        clear eqc hn3
        go_upto_region 11 with (fail)
        have hqs : wr.heap.size < (wr.alloc (.cells #[.int .i64 kd, .int .i64 an, .int .u32 (au : Int), .int .u32 (av : Int)] 58)).heap.size := by simp
        replace H := Lib.hid (H.out.add ((Upd.refl _ _).alloc (.cells #[.int .i64 kd, .int .i64 an, .int .u32 (au : Int), .int .u32 (av : Int)] 58)) (blk wr.heap.size [.int .i64 kd, .int .i64 an, .int .u32 (au : Int), .int .u32 (av : Int)] 58) (Go.heap_alloc_last wr _) (by simp [blk]) (fun x hx => by simp [blk] at hx; subst hx; exact ⟨Nat.le_refl _, hqs⟩))
        generalize wr.alloc (.cells #[.int .i64 kd, .int .i64 an, .int .u32 (au : Int), .int .u32 (av : Int)] 58) = W at H ⊢
        clear hqs k0 k1 k2 k3
        generalize wr.heap.size = q at H ⊢
        have c0 : W.cell? ⟨q, 0, none⟩ = some (.int .i64 kd) := cells_of (H.out.ok 0 _ rfl) 0
        by_cases e23 : kd = 2 ∨ kd = 3
        ·
          have hqd : q ∉ ([b, d, b', d'] : List Nat) := by
            have q1 : q ∉ [mb', b', d'] := fp_apart H.out.nodup (i := 0) (j := 1) rfl rfl (by omega) q (by simp [blk])
            have q2 : q ∉ [mb, b, d] := fp_apart H.out.nodup (i := 0) (j := 2) rfl rfl (by omega) q (by simp [blk])
            simp only [List.mem_cons, List.not_mem_nil, or_false, not_or] at q1 q2 ⊢
            simp only [q1.1, q1.2.1, q1.2.2, q2.1, q2.2.1, q2.2.2, not_false_eq_true, and_self]
          have n1 : ∀ x : Near [b, d, b', d'] W, x.1.cell? ⟨q, 1, none⟩ = some (.int .i64 an) := fun x => cells_of (x.2.keep (H.out.ok 0 _ rfl) hqd) 1
          have n2 : ∀ x : Near [b, d, b', d'] W, x.1.cell? ⟨q, 2, none⟩ = some (.int .u32 (au : Int)) := fun x => cells_of (x.2.keep (H.out.ok 0 _ rfl) hqd) 2
          have n3 : ∀ x : Near [b, d, b', d'] W, x.1.cell? ⟨q, 3, none⟩ = some (.int .u32 (av : Int)) := fun x => cells_of (x.2.keep (H.out.ok 0 _ rfl) hqd) 3
          obtain ⟨l2, hl⟩ : ∃ l2, l2 = mstoreL l au av an := ⟨_, rfl⟩
          obtain ⟨f2, hf2⟩ : ∃ f2, f2 = f + mloadF l au := ⟨_, rfl⟩
          have hl2 := Lib.hid (show l2.length = 1024 by rw [hl, mstoreL_len]; exact HL.out)
          have hf3 : f2 ≤ 1024 * (i + 1) := by have := mloadF_le l au; omega
          have S1 := Lib.hid fun w' (h : Env w [blk q [.int .i64 kd, .int .i64 an, .int .u32 (au : Int), .int .u32 (av : Int)] 58, rmemA mb' b' d' l f at', memA mb b d l f at'] w') => E_mstore h HT.out 2 rfl au av an hu1 hv1 (by omega)
          have S2 := Lib.hid fun w' (h : Env w [blk q [.int .i64 kd, .int .i64 an, .int .u32 (au : Int), .int .u32 (av : Int)] 58, rmemA mb' b' d' l f at', memA mb b d l2 f2 at'] w') => E_rmstore h HT.out 1 rfl au av an hu1 hv1 (by omega)
          rw [← hl, ← hf2] at S1 S2
          generalize mstoreE l au an = E at S1 S2
          obtain ⟨a2, hat2⟩ : ∃ a2, a2 = at' := ⟨_, rfl⟩
          rw [← hat2] at S1 S2 H
          have ha2 : a2 < 1024 := by omega
          clear hl hf2 hat2
          have ns := neq_self E
          rcases e23 with e | e
          all_goals
            subst e
            go_wp2_with (fail)
            refine wp_region_plan (fun z => ∃ x : Near [b, d, b', d'] W, z = x.1) [([0, 1, 2, 3, 4, 5, 6, 8, 9, 10, 11, 12, 13, 14], 7), ([], 15)] [16] (by kernel_rfl) (by kernel_rfl) (by kernel_rfl) (by kernel_rfl) (fun _ d _ _ _ h => by cases d <;> exact h) ⟨⟨(W).drew, (Upd.refl _ _).drew⟩, rfl⟩ ?_
            refine plan_next ?_
            simp only [opsAt, List.map_cons, List.map_nil, List.getElem?_toArray, List.getElem?_cons_zero, List.getElem?_cons_succ, Option.getD_some]
            repeat (go_big_quiet_step (fail))
            refine wpQuiet_nil ?_
            refine plan_one rfl ?_
            go_wp2_with fail
            replace H := Lib.hid (H.out.near (Upd.refl _ _).drew)
            refine (S1.out _ H.out).mono ?_
            rintro e w' ⟨rfl, H', u⟩
            simp only [List.set_cons_succ, List.set_cons_zero] at H'
            replace H := Lib.hid H'
            have U := Lib.hid (show Upd [b, d, b', d'] W w' from ((Upd.refl _ _).drew).trans (u.mono (by simp)))
            clear H' u
            go_wp2_with fail
            refine plan_same ⟨⟨_, U.out⟩, rfl⟩ ?_
            refine plan_next ?_
            simp only [opsAt, List.map_cons, List.map_nil, List.getElem?_toArray, List.getElem?_cons_zero, List.getElem?_cons_succ, Option.getD_some]
            repeat (go_big_quiet_step (fail))
            refine wpQuiet_nil ?_
            refine plan_one rfl ?_
            go_wp2_with fail
            refine (S2.out _ H.out).mono ?_
            rintro e wq ⟨rfl, H', u⟩
            simp only [List.set_cons_succ, List.set_cons_zero] at H'
            replace H := Lib.hid H'
            replace U := Lib.hid (U.out.trans (u.mono (by simp)))
            clear H' u
            go_wp2_with fail
            refine plan_same ⟨⟨_, U.out⟩, rfl⟩ ?_
            refine plan_last ?_
            simp only [opsAt, List.map_cons, List.map_nil, List.getElem?_toArray, List.getElem?_cons_zero, List.getElem?_cons_succ, Option.getD_some]
            repeat (go_big_quiet_step (fail))
            refine wpQuiet_nil ?_
            unfold planEnd
            go_wp2_with fail
            clear n1 n2 n3 hqd U S1 S2 ns
            have n0 : ∀ x : Near [] wq, x.1.cell? ⟨mb', 0, none⟩ = some (.pointer (some ⟨b', 0, none⟩)) := fun x => cells_of (x.2.keep (H.out.ok 1 _ rfl).cell (by simp)) 0
            have n1 : ∀ x : Near [] wq, x.1.cell? ⟨b', 1, none⟩ = some (.int .i64 (f2 : Int)) := fun x => cells_of (x.2.keep (H.out.ok 1 _ rfl).row.head (by simp)) 1
            refine wp_region_plan (fun z => ∃ x : Near [] wq, z = x.1) [([0, 2, 3, 4, 5, 6, 7, 8], 1)] [9] (by kernel_rfl) (by kernel_rfl) (by kernel_rfl) (by kernel_rfl) (fun _ d _ _ _ h => by cases d <;> exact h) ⟨⟨(wq).drew, (Upd.refl _ _).drew⟩, rfl⟩ ?_
            refine plan_next ?_
            simp only [opsAt, List.map_cons, List.map_nil, List.getElem?_toArray, List.getElem?_cons_zero, List.getElem?_cons_succ, Option.getD_some]
            repeat (go_big_quiet_step (fail))
            refine wpQuiet_nil ?_
            refine plan_one rfl ?_
            go_wp2_with fail
            replace H := Lib.hid (H.out.near (Upd.refl _ _).drew)
            refine (E_mfixes H.out HT.out 2 rfl).mono ?_
            rintro e w' ⟨rfl, rfl⟩
            go_wp2_with fail
            refine plan_same ⟨⟨_, (Upd.refl _ _).drew⟩, rfl⟩ ?_
            refine plan_last ?_
            simp only [opsAt, List.map_cons, List.map_nil, List.getElem?_toArray, List.getElem?_cons_zero, List.getElem?_cons_succ, Option.getD_some]
            repeat (go_big_quiet_step (fail))
            refine wpQuiet_nil ?_
            unfold planEnd
            go_wp2_with fail
            clear n0 n1
            go_roundg (100 - (i + 1))
            case measure => omega
            case rel => exact ⟨i + 1, a2, f2, l2, by go_num, ha2, by omega, rfl, Lib.hid hl2.out, by omega, Lib.hid H.out.drop1⟩
        · have d2 : (kd == 2) = false := by rw [beq_eq_false_iff_ne]; omega
          have d3 : (kd == 3) = false := by rw [beq_eq_false_iff_ne]; omega
          by_cases e4 : kd = 4
          · subst e4
            obtain ⟨M, hM, hMle⟩ := clampN an
            have S1 := Lib.hid fun w' (h : Env w [blk q [.int .i64 4, .int .i64 an, .int .u32 (au : Int), .int .u32 (av : Int)] 58, rmemA mb' b' d' l f at', memA mb b d l f at'] w') => E_mscrub h HT.out 2 rfl an M hM hat (by omega)
            have hsl := scrN_len M ⟨l, f, at', 0, false⟩
            have hsf := scrN_f M ⟨l, f, at', 0, false⟩
            have ha2 := scrN_a M ⟨l, f, at', 0, false⟩ hat
            simp only [HL.out] at hsl hsf ha2
            obtain ⟨s, hs⟩ : ∃ s, s = scrN M ⟨l, f, at', 0, false⟩ := ⟨_, rfl⟩
            have S2 := Lib.hid fun w' (h : Env w [blk q [.int .i64 4, .int .i64 an, .int .u32 (au : Int), .int .u32 (av : Int)] 58, rmemA mb' b' d' l f at', memA mb b d s.l s.f s.a] w') => E_rmscrub h HT.out 1 rfl an M hM hat (by omega)
            rw [← hs] at S1 S2 hsl hsf ha2
            generalize hX : (if s.e = true then 0 else s.x) = X at S1 S2
            generalize hY : (if s.e = true then 25 else 0) = Y at S1 S2
            generalize s.l = l2 at S1 S2 hsl
            generalize s.f = f2 at S1 S2 hsf
            generalize s.a = a2 at S1 S2 ha2
            have hl2 := Lib.hid hsl
            have ns := neq_self X
            have ns2 := neq_self Y
            clear hX hY hs hsl hM
            have c1 : W.cell? ⟨q, 1, none⟩ = some (.int .i64 an) := cells_of (H.out.ok 0 _ rfl) 1
            go_wp2_with (fail)
            refine (S1.out _ H.out).mono ?_
            rintro e w' ⟨rfl, H', u⟩
            simp only [List.set_cons_succ, List.set_cons_zero] at H'
            replace H := Lib.hid H'
            clear H' u
            clear c1
            have c1 : w'.cell? ⟨q, 1, none⟩ = some (.int .i64 an) := cells_of (H.out.ok 0 _ rfl) 1
            go_wp2_with (fail)
            refine (S2.out _ H.out).mono ?_
            rintro e wq ⟨rfl, H', u⟩
            simp only [List.set_cons_succ, List.set_cons_zero] at H'
            replace H := Lib.hid H'
            clear H' u S1 S2 c1
            go_wp2_with (fail)
            clear ns ns2
            have n0 : ∀ x : Near [] wq, x.1.cell? ⟨mb', 0, none⟩ = some (.pointer (some ⟨b', 0, none⟩)) := fun x => cells_of (x.2.keep (H.out.ok 1 _ rfl).cell (by simp)) 0
            have n1 : ∀ x : Near [] wq, x.1.cell? ⟨b', 1, none⟩ = some (.int .i64 (f2 : Int)) := fun x => cells_of (x.2.keep (H.out.ok 1 _ rfl).row.head (by simp)) 1
            refine wp_region_plan (fun z => ∃ x : Near [] wq, z = x.1) [([0, 2, 3, 4, 5, 6, 7, 8], 1)] [9] (by kernel_rfl) (by kernel_rfl) (by kernel_rfl) (by kernel_rfl) (fun _ d _ _ _ h => by cases d <;> exact h) ⟨⟨(wq).drew, (Upd.refl _ _).drew⟩, rfl⟩ ?_
            refine plan_next ?_
            simp only [opsAt, List.map_cons, List.map_nil, List.getElem?_toArray, List.getElem?_cons_zero, List.getElem?_cons_succ, Option.getD_some]
            repeat (go_big_quiet_step (fail))
            refine wpQuiet_nil ?_
            refine plan_one rfl ?_
            go_wp2_with fail
            replace H := Lib.hid (H.out.near (Upd.refl _ _).drew)
            refine (E_mfixes H.out HT.out 2 rfl).mono ?_
            rintro e w' ⟨rfl, rfl⟩
            go_wp2_with fail
            refine plan_same ⟨⟨_, (Upd.refl _ _).drew⟩, rfl⟩ ?_
            refine plan_last ?_
            simp only [opsAt, List.map_cons, List.map_nil, List.getElem?_toArray, List.getElem?_cons_zero, List.getElem?_cons_succ, Option.getD_some]
            repeat (go_big_quiet_step (fail))
            refine wpQuiet_nil ?_
            unfold planEnd
            go_wp2_with fail
            clear n0 n1
            go_roundg (100 - (i + 1))
            case measure => omega
            case rel => exact ⟨i + 1, a2, f2, l2, by go_num, ha2, by omega, rfl, Lib.hid hl2.out, by omega, Lib.hid H.out.drop1⟩
          · have d4 : (kd == 4) = false := by rw [beq_eq_false_iff_ne]; omega
            by_cases e56 : kd = 5 ∨ kd = 6
            ·
              have hqd : q ∉ ([d, d'] : List Nat) := by
                have q1 : q ∉ [mb', b', d'] := fp_apart H.out.nodup (i := 0) (j := 1) rfl rfl (by omega) q (by simp [blk])
                have q2 : q ∉ [mb, b, d] := fp_apart H.out.nodup (i := 0) (j := 2) rfl rfl (by omega) q (by simp [blk])
                simp only [List.mem_cons, List.not_mem_nil, or_false, not_or] at q1 q2 ⊢
                simp only [q1.1, q1.2.1, q1.2.2, q2.1, q2.2.1, q2.2.2, not_false_eq_true, and_self]
              have n1 : ∀ x : Near [d, d'] W, x.1.cell? ⟨q, 1, none⟩ = some (.int .i64 an) := fun x => cells_of (x.2.keep (H.out.ok 0 _ rfl) hqd) 1
              have hmd : mb' ∉ [d, d'] := by
                have q1 : mb' ∉ [mb, b, d] := fp_apart H.out.nodup (i := 1) (j := 2) rfl rfl (by omega) mb' (by simp [rmemA])
                have q2 := (H.out.ok 1 _ rfl).nd
                simp only [List.mem_cons, List.not_mem_nil, or_false, not_or] at q1 ⊢
                exact ⟨q1.2.2, q2⟩
              have n2 : ∀ x : Near [d, d'] W, x.1.cell? ⟨mb', 0, none⟩ = some (.pointer (some ⟨b', 0, none⟩)) := fun x => cells_of (x.2.keep (H.out.ok 1 _ rfl).cell hmd) 0
              have hl2 := Lib.hid ((flipL_len l an).trans HL.out)
              have S1 := Lib.hid fun w' (h : Env w [blk q [.int .i64 kd, .int .i64 an, .int .u32 (au : Int), .int .u32 (av : Int)] 58, rmemA mb' b' d' l f at', memA mb b d l f at'] w') => E_mflip h HT.out 2 rfl an
              have S2 := Lib.hid fun w' (h : Env w [blk q [.int .i64 kd, .int .i64 an, .int .u32 (au : Int), .int .u32 (av : Int)] 58, rmemA mb' b' d' l f at', memA mb b d (flipL l an) f at'] w') => E_rmflip h HT.out 1 rfl an
              generalize flipL l an = l2 at S1 S2 hl2
              generalize flipB l an = E at S1 S2
              obtain ⟨a2, hat2⟩ : ∃ a2, a2 = at' := ⟨_, rfl⟩
              obtain ⟨f2, hff2⟩ : ∃ f2, f2 = f := ⟨_, rfl⟩
              rw [← hat2, ← hff2] at S1 S2 H
              have ha2 : a2 < 1024 := by omega
              have hf3 : f2 ≤ 1024 * (i + 1) := by omega
              clear hat2 hff2 hmd
              rcases e56 with e | e
              all_goals
                subst e
                go_wp2_with (fail)
                refine wp_region_plan (fun z => ∃ x : Near [d, d'] W, z = x.1) [([0, 1, 2, 4, 5, 6, 7, 8, 9], 3), ([], 10)] [11] (by kernel_rfl) (by kernel_rfl) (by kernel_rfl) (by kernel_rfl) (fun _ d _ _ _ h => by cases d <;> exact h) ⟨⟨(W).drew, (Upd.refl _ _).drew⟩, rfl⟩ ?_
                refine plan_next ?_
                simp only [opsAt, List.map_cons, List.map_nil, List.getElem?_toArray, List.getElem?_cons_zero, List.getElem?_cons_succ, Option.getD_some]
                repeat (go_big_quiet_step (fail))
                refine wpQuiet_nil ?_
                refine plan_one rfl ?_
                go_wp2_with fail
                replace H := Lib.hid (H.out.near (Upd.refl _ _).drew)
                refine (S1.out _ H.out).mono ?_
                rintro e w' ⟨rfl, H', u⟩
                simp only [List.set_cons_succ, List.set_cons_zero] at H'
                replace H := Lib.hid H'
                have U := Lib.hid (show Upd [d, d'] W w' from ((Upd.refl _ _).drew).trans (u.mono (by simp)))
                clear H' u
                go_wp2_with fail
                refine plan_same ⟨⟨_, U.out⟩, rfl⟩ ?_
                refine plan_next ?_
                simp only [opsAt, List.map_cons, List.map_nil, List.getElem?_toArray, List.getElem?_cons_zero, List.getElem?_cons_succ, Option.getD_some]
                repeat (go_big_quiet_step (fail))
                refine wpQuiet_nil ?_
                refine plan_one rfl ?_
                go_wp2_with fail
                refine (S2.out _ H.out).mono ?_
                rintro e wq ⟨rfl, H', u⟩
                simp only [List.set_cons_succ, List.set_cons_zero] at H'
                replace H := Lib.hid H'
                replace U := Lib.hid (U.out.trans (u.mono (by simp)))
                clear H' u
                go_wp2_with fail
                refine plan_same ⟨⟨_, U.out⟩, rfl⟩ ?_
                refine plan_last ?_
                simp only [opsAt, List.map_cons, List.map_nil, List.getElem?_toArray, List.getElem?_cons_zero, List.getElem?_cons_succ, Option.getD_some]
                repeat (go_big_quiet_step (fail))
                refine wpQuiet_nil ?_
                unfold planEnd
                go_wp2_with fail
                clear n1 n2 hqd U S1 S2
                have n0 : ∀ x : Near [] wq, x.1.cell? ⟨mb', 0, none⟩ = some (.pointer (some ⟨b', 0, none⟩)) := fun x => cells_of (x.2.keep (H.out.ok 1 _ rfl).cell (by simp)) 0
                have n1 : ∀ x : Near [] wq, x.1.cell? ⟨b', 1, none⟩ = some (.int .i64 (f2 : Int)) := fun x => cells_of (x.2.keep (H.out.ok 1 _ rfl).row.head (by simp)) 1
                refine wp_region_plan (fun z => ∃ x : Near [] wq, z = x.1) [([0, 2, 3, 4, 5, 6, 7, 8], 1)] [9] (by kernel_rfl) (by kernel_rfl) (by kernel_rfl) (by kernel_rfl) (fun _ d _ _ _ h => by cases d <;> exact h) ⟨⟨(wq).drew, (Upd.refl _ _).drew⟩, rfl⟩ ?_
                refine plan_next ?_
                simp only [opsAt, List.map_cons, List.map_nil, List.getElem?_toArray, List.getElem?_cons_zero, List.getElem?_cons_succ, Option.getD_some]
                repeat (go_big_quiet_step (fail))
                refine wpQuiet_nil ?_
                refine plan_one rfl ?_
                go_wp2_with fail
                replace H := Lib.hid (H.out.near (Upd.refl _ _).drew)
                refine (E_mfixes H.out HT.out 2 rfl).mono ?_
                rintro e w' ⟨rfl, rfl⟩
                go_wp2_with fail
                refine plan_same ⟨⟨_, (Upd.refl _ _).drew⟩, rfl⟩ ?_
                refine plan_last ?_
                simp only [opsAt, List.map_cons, List.map_nil, List.getElem?_toArray, List.getElem?_cons_zero, List.getElem?_cons_succ, Option.getD_some]
                repeat (go_big_quiet_step (fail))
                refine wpQuiet_nil ?_
                unfold planEnd
                go_wp2_with fail
                clear n0 n1
                go_roundg (100 - (i + 1))
                case measure => omega
                case rel => exact ⟨i + 1, a2, f2, l2, by go_num, ha2, by omega, rfl, Lib.hid hl2.out, by omega, Lib.hid H.out.drop1⟩
            · have d5 : (kd == 5) = false := by rw [beq_eq_false_iff_ne]; omega
              have d6 : (kd == 6) = false := by rw [beq_eq_false_iff_ne]; omega
              obtain ⟨l2, hl⟩ : ∃ l2, l2 = mloadL l au := ⟨_, rfl⟩
              obtain ⟨f2, hf2⟩ : ∃ f2, f2 = f + mloadF l au := ⟨_, rfl⟩
              have hl2 := Lib.hid (show l2.length = 1024 by rw [hl, mloadL_len]; exact HL.out)
              have hf3 : f2 ≤ 1024 * (i + 1) := by have := mloadF_le l au; omega
              have S1 := Lib.hid fun w' (h : Env w [blk q [.int .i64 kd, .int .i64 an, .int .u32 (au : Int), .int .u32 (av : Int)] 58, rmemA mb' b' d' l f at', memA mb b d l f at'] w') => E_mload h HT.out 2 rfl au hu1 (by omega)
              have S2 := Lib.hid fun w' (h : Env w [blk q [.int .i64 kd, .int .i64 an, .int .u32 (au : Int), .int .u32 (av : Int)] 58, rmemA mb' b' d' l f at', memA mb b d l2 f2 at'] w') => E_rmload h HT.out 1 rfl au hu1 (by omega)
              rw [← hl, ← hf2] at S1 S2
              obtain ⟨X, Y, hXY⟩ : ∃ X Y, mloadV l au = (X, Y) := ⟨_, _, rfl⟩
              rw [hXY] at S1 S2
              obtain ⟨a2, hat2⟩ : ∃ a2, a2 = at' := ⟨_, rfl⟩
              rw [← hat2] at S1 S2 H
              have ha2 : a2 < 1024 := by omega
              have ns := neq_self X
              have ns2 := neq_self Y
              clear hl hf2 hXY hat2 e23 e4 e56
              have c2 : W.cell? ⟨q, 2, none⟩ = some (.int .u32 (au : Int)) := cells_of (H.out.ok 0 _ rfl) 2
              go_wp2_with (fail)
              refine (S1.out _ H.out).mono ?_
              rintro e w' ⟨rfl, H', u⟩
              simp only [List.set_cons_succ, List.set_cons_zero] at H'
              replace H := Lib.hid H'
              clear H' u
              clear c2
              have c2 : w'.cell? ⟨q, 2, none⟩ = some (.int .u32 (au : Int)) := cells_of (H.out.ok 0 _ rfl) 2
              go_wp2_with (fail)
              refine (S2.out _ H.out).mono ?_
              rintro e wq ⟨rfl, H', u⟩
              simp only [List.set_cons_succ, List.set_cons_zero] at H'
              replace H := Lib.hid H'
              clear H' u S1 S2 c2
              go_wp2_with (fail)
              clear ns ns2
              have n0 : ∀ x : Near [] wq, x.1.cell? ⟨mb', 0, none⟩ = some (.pointer (some ⟨b', 0, none⟩)) := fun x => cells_of (x.2.keep (H.out.ok 1 _ rfl).cell (by simp)) 0
              have n1 : ∀ x : Near [] wq, x.1.cell? ⟨b', 1, none⟩ = some (.int .i64 (f2 : Int)) := fun x => cells_of (x.2.keep (H.out.ok 1 _ rfl).row.head (by simp)) 1
              refine wp_region_plan (fun z => ∃ x : Near [] wq, z = x.1) [([0, 2, 3, 4, 5, 6, 7, 8], 1)] [9] (by kernel_rfl) (by kernel_rfl) (by kernel_rfl) (by kernel_rfl) (fun _ d _ _ _ h => by cases d <;> exact h) ⟨⟨(wq).drew, (Upd.refl _ _).drew⟩, rfl⟩ ?_
              refine plan_next ?_
              simp only [opsAt, List.map_cons, List.map_nil, List.getElem?_toArray, List.getElem?_cons_zero, List.getElem?_cons_succ, Option.getD_some]
              repeat (go_big_quiet_step (fail))
              refine wpQuiet_nil ?_
              refine plan_one rfl ?_
              go_wp2_with fail
              replace H := Lib.hid (H.out.near (Upd.refl _ _).drew)
              refine (E_mfixes H.out HT.out 2 rfl).mono ?_
              rintro e w' ⟨rfl, rfl⟩
              go_wp2_with fail
              refine plan_same ⟨⟨_, (Upd.refl _ _).drew⟩, rfl⟩ ?_
              refine plan_last ?_
              simp only [opsAt, List.map_cons, List.map_nil, List.getElem?_toArray, List.getElem?_cons_zero, List.getElem?_cons_succ, Option.getD_some]
              repeat (go_big_quiet_step (fail))
              refine wpQuiet_nil ?_
              unfold planEnd
              go_wp2_with fail
              clear n0 n1
              go_roundg (100 - (i + 1))
              case measure => omega
              case rel => exact ⟨i + 1, a2, f2, l2, by go_num, ha2, by omega, rfl, Lib.hid hl2.out, by omega, Lib.hid H.out.drop1⟩
      · have hw0 : (decide ((i : Int) < (asks.length : Int)) && decide ((i : Int) < 100)) = false := by
          rw [Bool.and_eq_false_iff, decide_eq_false_iff_not, decide_eq_false_iff_not]; omega
        clear HS
        generalize asks.length = m at *
        rcases hend with hend | ⟨rfl, hend⟩
        ·
          clear HB
          cases hW : wrdB l
          · have HW := Lib.hid hW
            have M1 := Lib.hid fun w' (h : Env w [rmemA mb' b' d' l f at', memA mb b d l f at'] w') => MWords_calls mb b d l f at' w' (h.ok 1 _ rfl) HL.out
            have M2 := Lib.hid fun w' (h : Env w [rmemA mb' b' d' l f at', memA mb b d l f at'] w') => RMWords_calls mb' b' d' l f at' w' (h.ok 0 _ rfl) HL.out
            clear hW
            go_wp2_with (fail)
            refine (M1.out _ H.out).mono ?_
            rintro e w' ⟨hb, ⟨h1, -⟩ | ⟨-, rfl⟩⟩
            · rw [HW.out] at h1; exact absurd h1 (by decide)
            replace H := Lib.hid (H.out.near (Upd.of_below hb))
            clear hb
            go_wp2_with (fail)
            refine (M2.out _ H.out).mono ?_
            rintro e w2 ⟨u, ⟨h1, -⟩ | ⟨-, rfl⟩⟩
            · rw [HW.out] at h1; exact absurd h1 (by decide)
            replace H := Lib.hid (H.out.near u)
            clear u M1 M2
            go_wp2_with (fail)
            go_loopg [173] 0 (fun g v173 wl => v173 = .int .i64 0 ∧ Hid (wl = w2))
            case atStart => exact ⟨rfl, Lib.hid rfl⟩
            case round =>
              obtain ⟨rfl, hw⟩ := hrel
              obtain rfl := hw.out
              clear hw
              go_wp2_with (fail)
              go_ret
              exact ⟨rfl, HU.out _ _ H.out⟩
          · have HW := Lib.hid hW
            have M1 := Lib.hid fun w' (h : Env w [rmemA mb' b' d' l f at', memA mb b d l f at'] w') => MWords_calls mb b d l f at' w' (h.ok 1 _ rfl) HL.out
            have M2 := Lib.hid fun w' (h : Env w [blk wr.heap.size (nums .u32 (wrdV l)).toList 26, rmemA mb' b' d' l f at', memA mb b d l f at'] w') => RMWords_calls mb' b' d' l f at' w' (h.ok 1 _ rfl) HL.out
            have lV : (wrdV l).length = 1024 := by rw [wrdV, List.length_map]; exact HL.out
            have LV := Lib.hid lV
            clear hW lV
            go_wp2_with (fail)
            refine (M1.out _ H.out).mono ?_
            rintro e w' ⟨hb, ⟨-, rfl, hq⟩ | ⟨h1, -⟩⟩
            rotate_left
            · rw [HW.out] at h1; exact absurd h1 (by decide)
            have H2 : Env w [blk wr.heap.size (nums .u32 (wrdV l)).toList 26, rmemA mb' b' d' l f at', memA mb b d l f at'] w' := H.out.add (Upd.of_below hb) _ (by simpa [blk] using hq) (by simp [blk]) (fun x hx => by
              have h3 := (Array.getElem?_eq_some_iff.mp hq).1
              simp [blk] at hx; omega)
            replace H := Lib.hid H2
            clear hb hq H2
            go_wp2_with (fail)
            refine (M2.out _ H.out).mono ?_
            rintro e w2 ⟨u, ⟨-, A', c', rfl, hA'⟩ | ⟨h1, -⟩⟩
            rotate_left
            · rw [HW.out] at h1; exact absurd h1 (by decide)
            replace H := Lib.hid (H.out.near u)
            have HA' := Lib.hid hA'
            clear u M1 M2 hA'
            generalize wrdV l = V at H HA' LV
            generalize wr.heap.size = q at H ⊢
            go_wp2_with (fail)
            go_loopg [173] 1024 (fun g v173 wl => ∃ k : Nat, v173 = .int .i64 (k : Int) ∧ k ≤ 1024 ∧ g = 1024 - k ∧ Hid (Upd [] w2 wl))
            case atStart => exact ⟨0, rfl, by omega, rfl, Upd.refl _ _⟩
            case round =>
              obtain ⟨k, rfl, hk, hgk, U⟩ := hrel
              rcases Nat.lt_or_ge k 1024 with h1 | h1
              · obtain ⟨bv, ov, rfl, hbv, hcv⟩ := HA'.out (by rw [LV.out]; omega)
                have cc := hcv k (by rw [LV.out]; exact h1)
                have n0 : ∀ x : Near [] wr, x.1.cell? ⟨bv, ov + k, none⟩ = some (.int .u32 ((nth V k : Nat) : Int)) := fun x => by
                  rw [← cc]; exact World.cell?_of_block (w := w2) ((U.out.trans x.2).block bv hbv (by simp))
                have n1 : ∀ x : Near [] wr, x.1.cell? ⟨q, k, none⟩ = some (.int .u32 ((nth V k : Nat) : Int)) := fun x => by
                  have hb := (H.out.near (U.out.trans x.2)).ok 0 _ rfl
                  rw [cells_of hb k]
                  have := nums_nth .u32 V k (by rw [LV.out]; exact h1)
                  simpa using this
                have ns := neq_self (nth V k)
                clear hcv cc
                generalize nth V k = y at n0 n1 ns
                go_wp2_with (fail)
                refine wp_region_plan (fun z => ∃ x : Near [] wr, z = x.1) [] [0, 1, 2, 3, 4, 5, 6, 7, 8] (by kernel_rfl) (by kernel_rfl) (by kernel_rfl) (by kernel_rfl) (fun _ d _ _ _ h => by cases d <;> exact h) ⟨⟨(wr).drew, (Upd.refl _ _).drew⟩, rfl⟩ ?_
                refine plan_last ?_
                simp only [opsAt, List.map_cons, List.map_nil, List.getElem?_toArray, List.getElem?_cons_zero, List.getElem?_cons_succ, Option.getD_some]
                repeat (go_big_quiet_step (fail))
                refine wpQuiet_nil ?_
                unfold planEnd
                go_wp2_with fail
                go_roundg (1024 - (k + 1))
                case measure => omega
                case rel => exact ⟨k + 1, by go_num, by omega, rfl, Lib.hid (U.out.drew)⟩
              · obtain rfl : k = 1024 := by omega
                go_wp2_with (fail)
                go_ret
                exact ⟨rfl, HU.out _ _ (H.out.near U.out)⟩
        ·
          clear HB
          cases hW : wrdB l
          · have HW := Lib.hid hW
            have M1 := Lib.hid fun w' (h : Env w [rmemA mb' b' d' l f at', memA mb b d l f at'] w') => MWords_calls mb b d l f at' w' (h.ok 1 _ rfl) HL.out
            have M2 := Lib.hid fun w' (h : Env w [rmemA mb' b' d' l f at', memA mb b d l f at'] w') => RMWords_calls mb' b' d' l f at' w' (h.ok 0 _ rfl) HL.out
            clear hW
            go_wp2_with (fail)
            refine (M1.out _ H.out).mono ?_
            rintro e w' ⟨hb, ⟨h1, -⟩ | ⟨-, rfl⟩⟩
            · rw [HW.out] at h1; exact absurd h1 (by decide)
            replace H := Lib.hid (H.out.near (Upd.of_below hb))
            clear hb
            go_wp2_with (fail)
            refine (M2.out _ H.out).mono ?_
            rintro e w2 ⟨u, ⟨h1, -⟩ | ⟨-, rfl⟩⟩
            · rw [HW.out] at h1; exact absurd h1 (by decide)
            replace H := Lib.hid (H.out.near u)
            clear u M1 M2
            go_wp2_with (fail)
            go_loopg [173] 0 (fun g v173 wl => v173 = .int .i64 0 ∧ Hid (wl = w2))
            case atStart => exact ⟨rfl, Lib.hid rfl⟩
            case round =>
              obtain ⟨rfl, hw⟩ := hrel
              obtain rfl := hw.out
              clear hw
              go_wp2_with (fail)
              go_ret
              exact ⟨rfl, HU.out _ _ H.out⟩
          · have HW := Lib.hid hW
            have M1 := Lib.hid fun w' (h : Env w [rmemA mb' b' d' l f at', memA mb b d l f at'] w') => MWords_calls mb b d l f at' w' (h.ok 1 _ rfl) HL.out
            have M2 := Lib.hid fun w' (h : Env w [blk wr.heap.size (nums .u32 (wrdV l)).toList 26, rmemA mb' b' d' l f at', memA mb b d l f at'] w') => RMWords_calls mb' b' d' l f at' w' (h.ok 1 _ rfl) HL.out
            have lV : (wrdV l).length = 1024 := by rw [wrdV, List.length_map]; exact HL.out
            have LV := Lib.hid lV
            clear hW lV
            go_wp2_with (fail)
            refine (M1.out _ H.out).mono ?_
            rintro e w' ⟨hb, ⟨-, rfl, hq⟩ | ⟨h1, -⟩⟩
            rotate_left
            · rw [HW.out] at h1; exact absurd h1 (by decide)
            have H2 : Env w [blk wr.heap.size (nums .u32 (wrdV l)).toList 26, rmemA mb' b' d' l f at', memA mb b d l f at'] w' := H.out.add (Upd.of_below hb) _ (by simpa [blk] using hq) (by simp [blk]) (fun x hx => by
              have h3 := (Array.getElem?_eq_some_iff.mp hq).1
              simp [blk] at hx; omega)
            replace H := Lib.hid H2
            clear hb hq H2
            go_wp2_with (fail)
            refine (M2.out _ H.out).mono ?_
            rintro e w2 ⟨u, ⟨-, A', c', rfl, hA'⟩ | ⟨h1, -⟩⟩
            rotate_left
            · rw [HW.out] at h1; exact absurd h1 (by decide)
            replace H := Lib.hid (H.out.near u)
            have HA' := Lib.hid hA'
            clear u M1 M2 hA'
            generalize wrdV l = V at H HA' LV
            generalize wr.heap.size = q at H ⊢
            go_wp2_with (fail)
            go_loopg [173] 1024 (fun g v173 wl => ∃ k : Nat, v173 = .int .i64 (k : Int) ∧ k ≤ 1024 ∧ g = 1024 - k ∧ Hid (Upd [] w2 wl))
            case atStart => exact ⟨0, rfl, by omega, rfl, Upd.refl _ _⟩
            case round =>
              obtain ⟨k, rfl, hk, hgk, U⟩ := hrel
              rcases Nat.lt_or_ge k 1024 with h1 | h1
              · obtain ⟨bv, ov, rfl, hbv, hcv⟩ := HA'.out (by rw [LV.out]; omega)
                have cc := hcv k (by rw [LV.out]; exact h1)
                have n0 : ∀ x : Near [] wr, x.1.cell? ⟨bv, ov + k, none⟩ = some (.int .u32 ((nth V k : Nat) : Int)) := fun x => by
                  rw [← cc]; exact World.cell?_of_block (w := w2) ((U.out.trans x.2).block bv hbv (by simp))
                have n1 : ∀ x : Near [] wr, x.1.cell? ⟨q, k, none⟩ = some (.int .u32 ((nth V k : Nat) : Int)) := fun x => by
                  have hb := (H.out.near (U.out.trans x.2)).ok 0 _ rfl
                  rw [cells_of hb k]
                  have := nums_nth .u32 V k (by rw [LV.out]; exact h1)
                  simpa using this
                have ns := neq_self (nth V k)
                clear hcv cc
                generalize nth V k = y at n0 n1 ns
                go_wp2_with (fail)
                refine wp_region_plan (fun z => ∃ x : Near [] wr, z = x.1) [] [0, 1, 2, 3, 4, 5, 6, 7, 8] (by kernel_rfl) (by kernel_rfl) (by kernel_rfl) (by kernel_rfl) (fun _ d _ _ _ h => by cases d <;> exact h) ⟨⟨(wr).drew, (Upd.refl _ _).drew⟩, rfl⟩ ?_
                refine plan_last ?_
                simp only [opsAt, List.map_cons, List.map_nil, List.getElem?_toArray, List.getElem?_cons_zero, List.getElem?_cons_succ, Option.getD_some]
                repeat (go_big_quiet_step (fail))
                refine wpQuiet_nil ?_
                unfold planEnd
                go_wp2_with fail
                go_roundg (1024 - (k + 1))
                case measure => omega
                case rel => exact ⟨k + 1, by go_num, by omega, rfl, Lib.hid (U.out.drew)⟩
              · obtain rfl : k = 1024 := by omega
                go_wp2_with (fail)
                go_ret
                exact ⟨rfl, HU.out _ _ (H.out.near U.out)⟩
end Go.Proofs.YtfnemolaoijbhacDoor
