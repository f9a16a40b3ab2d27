/- Law 14: play. -/
import Derived.Test.YtjnjpnnogdldaaaDoorEnvF
import Derived.Test.YtjnjpnnogdldaaaDoorAsk
import Derived.Deep.LoopGhost
namespace Go.Proofs.YtjnjpnnogdldaaaDoor
open Go.RowKit Go.Dio
set_option linter.unusedSimpArgs false
set_option linter.unusedVariables false

theorem getF_le1 (l : List Nat) (i : Int) : getF l i ≤ 1 := by unfold getF; split <;> omega
theorem rdL_len (l : List Nat) (i : Int) : (rdL l i).length = l.length := by unfold rdL; split; rfl; exact getL_len _ _
theorem wrL_len (l : List Nat) (i : Int) (v : Nat) : (wrL l i v).length = l.length := by unfold wrL; split; rfl; exact putL_len _ _ _
theorem wrB_eq {l : List Nat} (hl : l.length = 31) (i : Int) : wrB l i = decide (0 ≤ i ∧ i < 32) := by
  unfold wrB inn
  rw [hl, Bool.eq_iff_iff]
  simp only [Bool.or_eq_true, decide_eq_true_eq]
  omega

/-- What play has of registers and the row. -/
def P14 (w0 : World) (fb b d b' d' q : Nat) (c : List Value) (T : TypeId) (l : List Nat) (f f' a : Nat) (w : World) : Prop :=
  Env w0 [blk q c T, rowA 100 b' d' l f', fileA fb b d l f a] w

set_option maxRecDepth 20000 in
set_option maxHeartbeats 4000000 in
theorem play14_calls (A : Option Addr) (asks : List AskV) (c : Nat) (w : World) (hA : AsksAt w A asks) (hs : AsksOk asks) (hlc : asks.length ≤ 9223372036854775807) (hT : Tz w) :
    Calls Tryd.prog 40 #[.slice A asks.length c] w fun e w' => e = .returned (.bool true) ∧ Below w.heap.size w w' := by
  have N1 := Lib.hid (E_fnew w hT)
  have N2 := Lib.hid fun As w1 (h : Env w As w1) => E_rnew h 31 31 (by decide)
  obtain ⟨l0, hl0⟩ : ∃ l0, l0 = List.replicate 31 0 := ⟨_, rfl⟩
  have len0 : l0.length = 31 := by subst hl0; rfl
  rw [← hl0] at N1 N2
  have L0 := Lib.hid len0
  have HA := Lib.hid hA
  have HS := Lib.hid hs
  have HT := Lib.hid hT
  have hu : ∀ As w', Env w As w' → Below w.heap.size w w' := fun _ _ h => h.below
  have HU := Lib.hid hu
  clear hA hs hu hl0 hT len0
  generalize w.heap.size + 2 = fb at N1
  generalize w.heap.size + 1 = b at N1
  generalize w.heap.size = d at N1 HU ⊢
  go_enter Tryd.func40, Tryd.ntmps40
  go_wp2_with (fail)
  refine N1.out.mono ?_
  rintro e w1 ⟨rfl, H⟩
  go_wp2_with (fail)
  refine (N2.out _ _ H).mono ?_
  rintro e w2 ⟨rfl, H'⟩
  clear H
  generalize w1.heap.size + 1 = b' at H' ⊢
  generalize w1.heap.size = d' at H'
  have H := Lib.hid H'
  clear H'
  go_wp2_with (fail)
  go_loopg [5, 6] 100 (fun g v5 v6 wl => ∃ (i at' f f' : Nat) (l : List Nat), v6 = .int .i64 (i : Int) ∧ v5 = .int .i64 (at' : Int) ∧ at' < 31 ∧ i ≤ 100 ∧ g = 100 - i ∧ Hid (l.length = 31) ∧ f ≤ i ∧ f' ≤ i ∧ Hid (Env w [rowA 100 b' d' l f', fileA fb b d l f at'] wl))
  case atStart => exact ⟨0, 0, 0, 0, l0, rfl, rfl, by omega, by omega, rfl, L0, by omega, by omega, H⟩
  case round =>
    clear H
    obtain ⟨i, at', f, f', l, rfl, rfl, hat, hi, hg, HL, hf, hf', H⟩ := hrel
    rcases (by omega : (i < 100 ∧ i < asks.length) ∨ (asks.length ≤ i ∨ (i = 100 ∧ i < asks.length))) with ⟨hi80, hia⟩ | hend
    · obtain ⟨ba, oa, rfl, hba, hca⟩ := HA.out (by omega)
      have hq := hca i hia
      have k0 := hq 0 (.int .i64 (askN asks i).kind) rfl
      have k1 := hq 1 (.int .i64 (askN asks i).i) rfl
      have k2 := hq 2 (.int .u32 ((askN asks i).n : Int)) rfl
      have hn := HS.out i
      clear hq hca
      generalize askN asks i = a at k0 k1 k2 hn
      obtain ⟨kd, ai, an⟩ := a
      simp only at k0 k1 k2
      obtain ⟨hn1, hn2, hn3⟩ := hn
      simp only at hn1 hn2 hn3
      have HN2 := Lib.hid hn2
      have eqc : ∀ o, wr.cell? ⟨ba, o, none⟩ = w.cell? ⟨ba, o, none⟩ := fun o => World.cell?_of_block (w := w) (H.out.upd.block ba hba (by simp))
      rw [← eqc] at k0 k1 k2
      rw [Nat.add_zero] at k0
      clear eqc hn3 hn2
      go_upto_region 8 with (fail)
      have hqs : wr.heap.size < (wr.alloc (.cells #[.int .i64 kd, .int .i64 ai, .int .u32 (an : Int)] 53)).heap.size := by simp
      replace H := Lib.hid (H.out.add ((Upd.refl _ _).alloc (.cells #[.int .i64 kd, .int .i64 ai, .int .u32 (an : Int)] 53)) (blk wr.heap.size [.int .i64 kd, .int .i64 ai, .int .u32 (an : Int)] 53) (Go.heap_alloc_last wr _) (by simp [blk]) (fun x hx => by simp [blk] at hx; subst hx; exact ⟨Nat.le_refl _, hqs⟩))
      generalize wr.alloc (.cells #[.int .i64 kd, .int .i64 ai, .int .u32 (an : Int)] 53) = W at H ⊢
      clear hqs k0 k1 k2
      generalize wr.heap.size = q at H ⊢
      have c0 : W.cell? ⟨q, 0, none⟩ = some (.int .i64 kd) := cells_of (H.out.ok 0 _ rfl) 0
      have c1 : W.cell? ⟨q, 1, none⟩ = some (.int .i64 ai) := cells_of (H.out.ok 0 _ rfl) 1
      have c2 : W.cell? ⟨q, 2, none⟩ = some (.int .u32 (an : Int)) := cells_of (H.out.ok 0 _ rfl) 2
      obtain ⟨B, hB⟩ : ∃ B, B = decide (0 ≤ ai ∧ ai < 32) := ⟨_, rfl⟩
      have HB := Lib.hid hB
      clear hB
      go_upto_region 10 with (fail)
      go_cut [8] (fun v8 wc => v8 = .bool B ∧ Hid (wc = W))
      case first =>
        rcases Int.lt_or_le ai 0 with g1 | g1
        · go_wp2
          go_meet
          case rel => exact ⟨by rw [HB.out, show decide (0 ≤ ai ∧ ai < 32) = false from decide_eq_false (by omega)], Lib.hid rfl⟩
        · rcases Int.lt_or_le ai 32 with g2 | g2
          · go_wp2
            go_meet
            case rel => exact ⟨by rw [HB.out, show decide (0 ≤ ai ∧ ai < 32) = true from decide_eq_true (by omega)], Lib.hid rfl⟩
          · go_wp2
            go_meet
            case rel => exact ⟨by rw [HB.out, show decide (0 ≤ ai ∧ ai < 32) = false from decide_eq_false (by omega), show decide (ai < 32) = false from decide_eq_false (by omega)], Lib.hid rfl⟩
      case rest =>
        obtain ⟨rfl, hw⟩ := hcut
        obtain rfl := hw.out
        clear hw
        have hai := HN2.out
        by_cases e23 : kd = 2 ∨ kd = 3
        · have W1 := E_fwrite H.out HT.out 2 rfl ai an HN2.out hn1
          rw [wrB_eq HL.out, ← HB.out] at W1
          rcases (by omega : (ai < 0 ∨ 32 ≤ ai) ∨ ai = 0 ∨ (0 < ai ∧ ai < 32)) with g | g | ⟨g, g'⟩
          · obtain rfl : B = false := by rw [HB.out, decide_eq_false (by omega)]
            have e : wrL l ai an = l := by
              rw [wrL, if_neg (by omega), putL, inn_not (by rw [HL.out]; omega)]; rfl
            rw [e] at W1
            replace W1 := Lib.hid W1
            clear e
            rcases e23 with e | e
            all_goals
              subst e
              go_wp2_with (fail)
              refine (W1.out).mono ?_
              rintro e w' ⟨rfl, H', u⟩
              simp only [List.set_cons_succ, List.set_cons_zero] at H'
              replace H := Lib.hid H'
              clear H' u
              clear c0 c1 c2
              have c0 := True.intro
              have c1 : w'.cell? ⟨q, 1, none⟩ = some (.int .i64 ai) := cells_of (H.out.ok 0 _ rfl) 1
              have c2 : w'.cell? ⟨q, 2, none⟩ = some (.int .u32 (an : Int)) := cells_of (H.out.ok 0 _ rfl) 2
              go_wp2_with (fail)
              go_roundg (100 - (i + 1))
              case measure => omega
              case rel => exact ⟨i + 1, at', f, f', l, by go_num, by first | rfl | simp, by omega, by omega, rfl, Lib.hid (HL.out), by omega, by omega, Lib.hid H.out.drop1⟩
          · subst g
            obtain rfl : B = true := by rw [HB.out]; rfl
            have e : wrL l 0 an = l := rfl
            rw [e] at W1
            replace W1 := Lib.hid W1
            clear e
            rcases e23 with e | e
            all_goals
              subst e
              go_wp2_with (fail)
              refine (W1.out).mono ?_
              rintro e w' ⟨rfl, H', u⟩
              simp only [List.set_cons_succ, List.set_cons_zero] at H'
              replace H := Lib.hid H'
              clear H' u
              clear c0 c1 c2
              have c0 := True.intro
              have c1 : w'.cell? ⟨q, 1, none⟩ = some (.int .i64 0) := cells_of (H.out.ok 0 _ rfl) 1
              have c2 : w'.cell? ⟨q, 2, none⟩ = some (.int .u32 (an : Int)) := cells_of (H.out.ok 0 _ rfl) 2
              go_wp2_with (fail)
              go_roundg (100 - (i + 1))
              case measure => omega
              case rel => exact ⟨i + 1, at', f, f', l, by go_num, by first | rfl | simp, by omega, by omega, rfl, Lib.hid (HL.out), by omega, by omega, Lib.hid H.out.drop1⟩
          · obtain rfl : B = true := by rw [HB.out, decide_eq_true (by omega)]
            have e : wrL l ai an = putL l (ai - 1) an := by rw [wrL, if_neg (by omega)]
            rw [e] at W1
            replace W1 := Lib.hid W1
            have PL := Lib.hid ((putL_len l (ai - 1) an).trans HL.out)
            clear e
            rcases e23 with e | e
            all_goals
              subst e
              go_wp2_with (fail)
              refine (W1.out).mono ?_
              rintro e w' ⟨rfl, H', u⟩
              simp only [List.set_cons_succ, List.set_cons_zero] at H'
              replace H := Lib.hid H'
              clear H' u
              clear c0 c1 c2
              have c0 := True.intro
              have c1 : w'.cell? ⟨q, 1, none⟩ = some (.int .i64 ai) := cells_of (H.out.ok 0 _ rfl) 1
              have c2 : w'.cell? ⟨q, 2, none⟩ = some (.int .u32 (an : Int)) := cells_of (H.out.ok 0 _ rfl) 2
              go_wp2_with (fail)
              refine (E_rput H.out HT.out 1 rfl (ai - 1) an hn1).mono ?_
              rintro e w' ⟨rfl, H', u⟩
              simp only [List.set_cons_succ, List.set_cons_zero] at H'
              replace H := Lib.hid H'
              clear H' u
              clear c0 c1 c2
              have c0 := True.intro
              have c1 : w'.cell? ⟨q, 1, none⟩ = some (.int .i64 ai) := cells_of (H.out.ok 0 _ rfl) 1
              have c2 : w'.cell? ⟨q, 2, none⟩ = some (.int .u32 (an : Int)) := cells_of (H.out.ok 0 _ rfl) 2
              go_wp2_with (fail)
              go_roundg (100 - (i + 1))
              case measure => omega
              case rel => exact ⟨i + 1, at', f, f', putL l (ai - 1) an, by go_num, by first | rfl | simp, by omega, by omega, rfl, Lib.hid (PL.out), by omega, by omega, Lib.hid H.out.drop1⟩
        · have d2 : (kd == 2) = false := by rw [beq_eq_false_iff_ne]; omega
          have d3 : (kd == 3) = false := by rw [beq_eq_false_iff_ne]; omega
          by_cases e4 : kd = 4
          · subst e4
            have hg := getF_le1 l (at' : Int)
            have hgl := Lib.hid ((getL_len l (at' : Int)).trans HL.out)
            have S1 := Lib.hid fun w' (h : Env w [blk q [.int .i64 4, .int .i64 ai, .int .u32 (an : Int)] 53, rowA 100 b' d' (getL l (at' : Int)) (f' + getF l (at' : Int)), fileA fb b d l f at'] w') => E_fscrub h HT.out 2 rfl (by rw [HL.out]; omega) (by omega) (by omega)
            rw [HL.out] at S1
            go_wp2_with (fail)
            refine (E_rget H.out HT.out 1 rfl (at' : Int) (by omega)).mono ?_
            rintro e w' ⟨rfl, H', u⟩
            simp only [List.set_cons_succ, List.set_cons_zero] at H'
            replace H := Lib.hid H'
            clear H' u
            clear c0 c1 c2
            have c0 := True.intro
            have c1 : w'.cell? ⟨q, 1, none⟩ = some (.int .i64 ai) := cells_of (H.out.ok 0 _ rfl) 1
            have c2 : w'.cell? ⟨q, 2, none⟩ = some (.int .u32 (an : Int)) := cells_of (H.out.ok 0 _ rfl) 2
            go_wp2_with (fail)
            refine (S1.out _ H.out).mono ?_
            rintro e w' ⟨rfl, H', u⟩
            simp only [List.set_cons_succ, List.set_cons_zero] at H'
            replace H := Lib.hid H'
            clear H' u
            clear c0 c1 c2
            have c0 := True.intro
            have c1 : w'.cell? ⟨q, 1, none⟩ = some (.int .i64 ai) := cells_of (H.out.ok 0 _ rfl) 1
            have c2 : w'.cell? ⟨q, 2, none⟩ = some (.int .u32 (an : Int)) := cells_of (H.out.ok 0 _ rfl) 2
            go_wp2_with (fail)
            go_roundg (100 - (i + 1))
            case measure => omega
            case rel => exact ⟨i + 1, (at' + 1) % 31, f + getF l (at' : Int), f' + getF l (at' : Int), getL l (at' : Int), by go_num, by first | rfl | simp, by omega, by omega, rfl, Lib.hid (hgl.out), by omega, by omega, Lib.hid H.out.drop1⟩
          · have d4 : (kd == 4) = false := by rw [beq_eq_false_iff_ne]; omega
            by_cases e56 : kd = 5 ∨ kd = 6
            · rcases e56 with e | e
              all_goals
                subst e
                go_wp2_with (fail)
                have q1 : q ∉ [b', d'] := fp_apart H.out.nodup (i := 0) (j := 1) rfl rfl (by omega) q (by simp [blk])
                have q2 : q ∉ [fb, b, d] := fp_apart H.out.nodup (i := 0) (j := 2) rfl rfl (by omega) q (by simp [blk])
                have hqd : q ∉ [d, d'] := by
                  simp only [List.mem_cons, List.not_mem_nil, or_false, not_or] at q1 q2 ⊢
                  exact ⟨q2.2.2, q1.2⟩
                clear q1 q2
                have n1 : ∀ x : Near [d, d'] wc, x.1.cell? ⟨q, 1, none⟩ = some (.int .i64 ai) := fun x => cells_of (x.2.keep (H.out.ok 0 _ rfl) hqd) 1
                refine wp_region_plan (fun z => ∃ x : Near [d, d'] wc, z = x.1) [([0, 1, 2, 4, 5, 6], 3), ([], 7)] [8] (by kernel_rfl) (by kernel_rfl) (by kernel_rfl) (by kernel_rfl) (fun _ d _ _ _ h => by cases d <;> exact h) ⟨⟨(wc).drew, (Upd.refl _ _).drew⟩, rfl⟩ ?_
                refine plan_next ?_
                simp only [opsAt, List.map_cons, List.map_nil, List.getElem?_toArray, List.getElem?_cons_zero, List.getElem?_cons_succ, Option.getD_some]
                repeat (go_big_quiet_step (fail))
                refine wpQuiet_nil ?_
                refine plan_one rfl ?_
                go_wp2_with fail
                replace H := Lib.hid (H.out.near (Upd.refl _ _).drew)
                refine (E_fflip H.out HT.out 2 rfl ai).mono ?_
                rintro e w' ⟨rfl, H', u⟩
                simp only [List.set_cons_succ, List.set_cons_zero] at H'
                replace H := Lib.hid H'
                have U := Lib.hid (show Upd [d, d'] wc w' from ((Upd.refl _ _).drew).trans (u.mono (by simp)))
                clear H' u
                go_wp2_with fail
                refine plan_same ⟨⟨_, U.out⟩, rfl⟩ ?_
                refine plan_next ?_
                simp only [opsAt, List.map_cons, List.map_nil, List.getElem?_toArray, List.getElem?_cons_zero, List.getElem?_cons_succ, Option.getD_some]
                repeat (go_big_quiet_step (fail))
                refine wpQuiet_nil ?_
                refine plan_one rfl ?_
                go_wp2_with fail
                refine (E_rflip H.out HT.out 1 rfl ai).mono ?_
                rintro e w2 ⟨rfl, H', u⟩
                simp only [List.set_cons_succ, List.set_cons_zero] at H'
                replace H := Lib.hid H'
                replace U := Lib.hid (U.out.trans (u.mono (by simp)))
                clear H' u
                go_wp2_with fail
                refine plan_same ⟨⟨_, U.out⟩, rfl⟩ ?_
                refine plan_last ?_
                simp only [opsAt, List.map_cons, List.map_nil, List.getElem?_toArray, List.getElem?_cons_zero, List.getElem?_cons_succ, Option.getD_some]
                repeat (go_big_quiet_step (fail))
                refine wpQuiet_nil ?_
                unfold planEnd
                go_wp2_with fail
                go_roundg (100 - (i + 1))
                case measure => omega
                case rel => exact ⟨i + 1, at', f, f', flipL l ai, by go_num, by first | rfl | simp, by omega, by omega, rfl, Lib.hid ((flipL_len l ai).trans HL.out), by omega, by omega, Lib.hid H.out.drop1⟩
            · have d5 : (kd == 5) = false := by rw [beq_eq_false_iff_ne]; omega
              have d6 : (kd == 6) = false := by rw [beq_eq_false_iff_ne]; omega
              clear e23 e4 e56
              have R1 := Lib.hid (E_fread H.out HT.out 2 rfl ai HN2.out (by omega))
              by_cases g0 : ai = 0
              · subst g0
                have e1 : rdV l 0 = (0, 0) := rfl
                have e2 : rdL l 0 = l := rfl
                have e3 : rdF l 0 = 0 := rfl
                rw [e1, e2, e3] at R1
                clear e1 e2 e3
                go_wp2_with (fail)
                refine (R1.out).mono ?_
                rintro e w' ⟨rfl, H', u⟩
                simp only [List.set_cons_succ, List.set_cons_zero] at H'
                replace H := Lib.hid H'
                clear H' u
                clear c0 c1 c2
                have c0 := True.intro
                have c1 : w'.cell? ⟨q, 1, none⟩ = some (.int .i64 0) := cells_of (H.out.ok 0 _ rfl) 1
                have c2 : w'.cell? ⟨q, 2, none⟩ = some (.int .u32 (an : Int)) := cells_of (H.out.ok 0 _ rfl) 2
                go_wp2_with (fail)
                go_roundg (100 - (i + 1))
                case measure => omega
                case rel => exact ⟨i + 1, at', f + 0, f', l, by go_num, by first | rfl | simp, by omega, by omega, rfl, Lib.hid (HL.out), by omega, by omega, Lib.hid H.out.drop1⟩
              · have d0 : (ai == 0) = false := by rw [beq_eq_false_iff_ne]; exact g0
                have d0' : (ai != 0) = true := by rw [bne_iff_ne]; exact g0
                obtain ⟨j, hj⟩ : ∃ j, RowKit.wrap64 (ai - 1) = j := ⟨_, rfl⟩
                have hp := inn_pred (l := l) (by rw [HL.out]; omega) hai.1 hai.2 hj
                obtain ⟨p1, p2, p3⟩ := get_pred hp
                have e1 : rdV l ai = peekL l j := by rw [rdV, if_neg g0, p1]
                have e2 : rdL l ai = getL l j := by rw [rdL, if_neg g0, p2]
                have e3 : rdF l ai = getF l j := by rw [rdF, if_neg g0, p3]
                rw [e1, e2, e3] at R1
                have hg := getF_le1 l j
                have hgl := Lib.hid ((getL_len l j).trans HL.out)
                clear e1 e2 e3 p1 p2 p3 hp g0 hai
                go_wp2_with (fail)
                refine (R1.out).mono ?_
                rintro e w' ⟨rfl, H', u⟩
                simp only [List.set_cons_succ, List.set_cons_zero] at H'
                replace H := Lib.hid H'
                clear H' u
                clear c0 c1 c2
                have c0 := True.intro
                have c1 : w'.cell? ⟨q, 1, none⟩ = some (.int .i64 ai) := cells_of (H.out.ok 0 _ rfl) 1
                have c2 : w'.cell? ⟨q, 2, none⟩ = some (.int .u32 (an : Int)) := cells_of (H.out.ok 0 _ rfl) 2
                go_wp2_with (fail)
                refine (E_rget H.out HT.out 1 rfl j (by omega)).mono ?_
                rintro e w' ⟨rfl, H', u⟩
                simp only [List.set_cons_succ, List.set_cons_zero] at H'
                replace H := Lib.hid H'
                clear H' u
                clear c0 c1 c2
                have c0 := True.intro
                have c1 : w'.cell? ⟨q, 1, none⟩ = some (.int .i64 ai) := cells_of (H.out.ok 0 _ rfl) 1
                have c2 : w'.cell? ⟨q, 2, none⟩ = some (.int .u32 (an : Int)) := cells_of (H.out.ok 0 _ rfl) 2
                go_wp2_with (fail)
                go_roundg (100 - (i + 1))
                case measure => omega
                case rel => exact ⟨i + 1, at', f + getF l j, f' + getF l j, getL l j, by go_num, by first | rfl | simp, by omega, by omega, rfl, Lib.hid (hgl.out), by omega, by omega, Lib.hid H.out.drop1⟩
    · have hw0 : (decide ((i : Int) < (asks.length : Int)) && decide ((i : Int) < 100)) = false := by
        rw [Bool.and_eq_false_iff, decide_eq_false_iff_not, decide_eq_false_iff_not]; omega
      clear HA HS N1 N2
      generalize asks.length = m at *
      rcases hend with hend | ⟨rfl, hend⟩
      all_goals
        go_wp2_with (fail)
        obtain ⟨Z, hZ⟩ : ∃ Z, Z = zeros 32 := ⟨_, rfl⟩
        have lZ : Z.length = 32 := by rw [hZ]; rfl
        have zZ : nth Z 0 = 0 := by rw [hZ]; rfl
        have H1 : Env w [blk wr.heap.size (nums .u32 Z).toList 57, rowA 100 b' d' l f', fileA fb b d l f at'] (wr.alloc (.cells (nums .u32 Z) 57)) :=
          H.out.add ((Upd.refl _ _).alloc _) _ (Go.heap_alloc_last wr _) (by simp [blk]) (fun x hx => by simp [blk] at hx; subst hx; exact ⟨Nat.le_refl _, by simp⟩)
        have hW : wr.alloc (.cells (nums .u32 (zeros 32)) 57) = wr.alloc (.cells (nums .u32 Z) 57) := by rw [hZ]
        clear H
        have H := Lib.hid H1
        clear H1
        generalize hq : wr.heap.size = q at H ⊢
        have HZ := Lib.hid (show Z = zeros 32 from hZ)
        have RP := Lib.hid fun (k : Nat) w' (h : RowAt 100 b' d' l f' w') => RPeek_calls _ b' d' l f' (k : Int) w' h
        go_loopg [16, 17] 31 (fun g v16 v17 wl => ∃ (i : Nat) (o : List Nat), v17 = .int .i64 ((i : Int) + 1) ∧ i ≤ 31 ∧ g = 31 - i ∧ v16 = .bool (allB (l.take i)) ∧ Hid (o.length = 32 ∧ nth o 0 = 0 ∧ ∀ j, j < i → nth o (j + 1) = (dec (nth l j)).1) ∧ Hid (Env w [blk q (nums .u32 o).toList 57, rowA 100 b' d' l f', fileA fb b d l f at'] wl))
        case atStart => exact ⟨0, Z, rfl, by omega, rfl, rfl, Lib.hid ⟨lZ, zZ, fun j hj => by omega⟩, Lib.hid (by have := H.out; rw [← hW] at this; subst hq; exact this)⟩
        case round =>
          clear H lZ zZ hW hq hZ
          obtain ⟨k, o, rfl, hk, hgk, rfl, HO, H⟩ := hrel
          rcases Nat.lt_or_ge k 31 with h31 | h31
          · have P := Lib.hid (RP.out k _ (H.out.ok 1 _ rfl))
            rw [peek_nat (show k < l.length by rw [HL.out]; omega)] at P
            obtain ⟨y, z, hyz⟩ : ∃ y z, dec (nth l k) = (y, z) := ⟨_, _, rfl⟩
            rw [hyz] at P
            have c1 : wr.cell? ⟨q, k + 1, none⟩ = some (.int .u32 ((nth o (k + 1) : Nat) : Int)) := by
              have := cells_of (H.out.ok 0 _ rfl) (k + 1)
              rw [this]
              have := nums_nth .u32 o (k + 1) (by rw [HO.out.1]; omega)
              simpa using this
            have f1 : wr.frozen? ⟨q, k + 1, none⟩ = false := free_of (H.out.ok 0 _ rfl) (k + 1)
            have ix : ((k : Int) + 1).toNat = k + 1 := by omega
            have hset : Hid (Env w [blk q (nums .u32 (o.set (k + 1) y)).toList 57, rowA 100 b' d' l f', fileA fb b d l f at'] (wr.setCell ⟨q, k + 1, none⟩ (.int .u32 (y : Int)))) := by
              have hk2 : (wr.setCell ⟨q, k + 1, none⟩ (.int .u32 (y : Int))).heap[q]? = some (.cells (nums .u32 (o.set (k + 1) y)).toList.toArray 57 (0, 0)) := by
                have := heap_setCell_eq (H.out.ok 0 _ rfl) (k + 1) (.int .u32 (y : Int))
                rw [this]
                congr 2
                rw [← nums_set]
              have := H.out.set HT.out 0 rfl ((Upd.refl [q] wr).setCell (p := ⟨q, k + 1, none⟩) (by simp) (.int .u32 (y : Int))) (by simp [blk]) (A' := blk q (nums .u32 (o.set (k + 1) y)).toList 57) hk2 rfl
              exact this
            have hG : allB (l.take (k + 1)) = (allB (l.take k) && decide (z ≠ 2)) := by
              rw [allB, List.take_succ_eq_append_getElem (by rw [HL.out]; omega), List.all_append, ← allB]
              have hkl : k < l.length := by rw [HL.out]; omega
              have : (dec l[k]).2 = z := by rw [← nth_eq l k hkl, hyz]
              simp [this]
            have HG := Lib.hid hG
            have HY := Lib.hid hyz
            have HOs := Lib.hid (show (o.set (k + 1) y).length = 32 ∧ nth (o.set (k + 1) y) 0 = 0 ∧ ∀ j, j < k + 1 → nth (o.set (k + 1) y) (j + 1) = (dec (nth l j)).1 from ⟨by simpa using HO.out.1, by rw [nth_set_ne (by omega)]; exact HO.out.2.1, fun j hj => by
              by_cases e : j = k
              · subst e; rw [nth_set_eq (by rw [HO.out.1]; omega), hyz]
              · rw [nth_set_ne (by omega)]; exact HO.out.2.2 j (by omega)⟩)
            clear hG hyz
            generalize allB (l.take k) = G at HG ⊢
            by_cases hz : z = 2
            · subst hz
              cases G
              all_goals
                go_wp2_with (fail)
                refine P.out.mono ?_
                rintro e w' ⟨rfl, rfl⟩
                go_wp2_with (fail)
                go_roundg (31 - (k + 1))
                case measure => omega
                case rel => exact ⟨k + 1, o.set (k + 1) y, by go_num, by omega, rfl, by rw [HG.out]; rfl, HOs, hset⟩
            · have dz : ((z : Int) != 2) = true := by rw [bne_iff_ne]; omega
              have dz2 : decide (z ≠ 2) = true := decide_eq_true hz
              have HG2 : Hid (allB (l.take (k + 1)) = G) := Lib.hid (by rw [HG.out, dz2, Bool.and_true])
              clear dz2
              cases G
              all_goals
                go_wp2_with (fail)
                refine P.out.mono ?_
                rintro e w' ⟨rfl, rfl⟩
                go_wp2_with (fail)
                go_roundg (31 - (k + 1))
                case measure => omega
                case rel => exact ⟨k + 1, o.set (k + 1) y, by go_num, by omega, rfl, by rw [HG2.out], HOs, hset⟩
          · obtain rfl : k = 31 := by omega
            have ht : l.take 31 = l := List.take_of_length_le (by rw [HL.out]; omega)
            rw [ht]
            have FA := Lib.hid fun o w' (h : Env w [blk q (nums .u32 o).toList 57, rowA 100 b' d' l f', fileA fb b d l f at'] w') => E_fall h HT.out 2 rfl HL.out
            clear ht
            cases hG : allB l
            · rw [hG, if_neg (by decide)] at FA
              have so : (nums .u32 o).toList.length = 32 := by rw [Array.length_toList, nums_size]; exact HO.out.1
              clear hG HO HZ
              have q1 := run_eql_nums 57 23 32 .u32 Tryd.underlying57 Tryd.underlying23 (fun w => by rfl) (zeros 32) (zeros 32) rfl rfl
              rw [decide_eq_true rfl] at q1
              have hb := H.out.ok 0 _ rfl
              have HB2 := Lib.hid (show wr.heap[q]? = some (.cells (nums .u32 o).toList.toArray 57 (0, 0)) from hb)
              clear hb
              have Q1 := Lib.hid q1
              clear q1
              go_wp2_with (first
                | go_skip
                | (refine L_store_row 57 (.tmp 15) (.tmp 150) rfl (by kernel_rfl) q 0 rfl (nums .u32 o).toList 57 HB2.out (nums .u32 (zeros 32)) rfl 32 info_r32 rfl (by rw [so]; decide) (nums_one _ _) ?_))
              intro w2 b2 u2 z2
              rw [spl_all (by rw [so]; rfl)] at b2
              have H3 := H.out.set HT.out 0 rfl u2 (by simp [blk]) (A' := blk q (nums .u32 (zeros 32)).toList 57) b2 rfl
              simp only [List.set_cons_zero] at H3
              clear b2 u2 z2 HB2 H
              have H := Lib.hid H3
              clear H3
              go_wp2_with (fail)
              refine (FA.out _ _ H.out).mono ?_
              rintro e w' ⟨rfl, H', u⟩
              replace H := Lib.hid H'
              clear H' u
              have q1 := Q1.out
              go_wp2_with (first
                | go_skip
                | (refine L_store_new 57 (.tmp 20) (.tmp 154) rfl (by kernel_rfl) _ (nums .u32 (zeros 32)) rfl rfl 32 info_r32 rfl rfl (nums_one _ _) ?_)
                | (refine L_load 57 (.tmp 20) rfl (by kernel_rfl) _ _ rfl (nums .u32 (zeros 32)) (row_range (Go.heap_alloc_last w' _)) Tryd.underlying57 rfl 32 info_r32 rfl ?_)
                | (refine L_load 57 (.tmp 15) rfl (by kernel_rfl) _ _ rfl (nums .u32 (zeros 32)) (row_range (heap_old (H.out.ok 0 _ rfl) _)) Tryd.underlying57 rfl 32 info_r32 rfl ?_))
              go_ret
              exact ⟨rfl, HU.out _ _ (H.out.near ((Upd.refl _ _).alloc _))⟩
            · have hO : o = allV l := allV_of HL.out HO.out.1 HO.out.2.1 (fun j hj => HO.out.2.2 j hj)
              rw [hG, if_pos rfl, ← hO] at FA
              have so : (nums .u32 o).size = 32 := by rw [nums_size]; exact HO.out.1
              have lo := HO.out.1
              clear hO hG HO
              have q1 := run_eql_nums 57 23 32 .u32 Tryd.underlying57 Tryd.underlying23 (fun w => by rfl) o o lo lo
              rw [decide_eq_true rfl] at q1
              go_wp2_with (fail)
              refine (FA.out _ _ H.out).mono ?_
              rintro e w' ⟨rfl, H', u⟩
              replace H := Lib.hid H'
              clear H' u
              go_wp2_with (first
                | go_skip
                | (refine L_store_new 57 (.tmp 20) (.tmp 154) rfl (by kernel_rfl) _ (nums .u32 o) rfl rfl 32 info_r32 rfl so (nums_one _ _) ?_)
                | (refine L_load 57 (.tmp 20) rfl (by kernel_rfl) _ _ rfl (nums .u32 o) (row_range (Go.heap_alloc_last w' _)) Tryd.underlying57 rfl 32 info_r32 so ?_)
                | (refine L_load 57 (.tmp 15) rfl (by kernel_rfl) _ _ rfl (nums .u32 o) (row_range (heap_old (H.out.ok 0 _ rfl) _)) Tryd.underlying57 rfl 32 info_r32 so ?_))
              go_ret
              exact ⟨rfl, HU.out _ _ (H.out.near ((Upd.refl _ _).alloc _))⟩
end Go.Proofs.YtjnjpnnogdldaaaDoor
