/- Law 3: play. -/
import Derived.Test.YtfnemolaoijbhabDoorTwo
import Derived.Test.YtfnemolaoijbhabDoorInts
import Derived.Test.YtfnemolaoijbhabDoorAsk
import Derived.Deep.LoopGhost
namespace Go.Proofs.YtfnemolaoijbhabDoor
open Go.RowKit Go.Dio
set_option linter.unusedSimpArgs false
set_option linter.unusedVariables false

theorem getF_le (l : List Nat) (i : Int) : getF l i ≤ 1 := by unfold getF; split <;> omega

set_option maxRecDepth 20000 in
set_option maxHeartbeats 4000000 in
theorem play3_calls (size : Int) (A : Option Addr) (asks : List AskV) (c : Nat) (w : World) (hA : AsksAt w A asks) (hs : ∀ k, (askN asks k).n < 2 ^ 32) (hlc : asks.length ≤ 9223372036854775807) (hT : Tz w) :
    Calls Tryd.prog 9 #[.int .i64 size, .slice A asks.length c] w fun e w' => e = .returned (.bool true) ∧ Below w.heap.size w w' := by
  obtain ⟨N, hN⟩ : ∃ N : Nat, (N : Int) = max 0 (min size 2048) := ⟨(max 0 (min size 2048)).toNat, by omega⟩
  have N1 := Lib.hid (O_new size N w hT hN)
  have N2 := Lib.hid fun w1 b d l f (h : Own w b d l f w1) => T_new size N w w1 b d l f h hN
  have hNl : N ≤ 2048 := by omega
  obtain ⟨l0, hl0⟩ : ∃ l0, l0 = List.replicate N 0 := ⟨_, rfl⟩
  have len0 : l0.length = N := by subst hl0; exact List.length_replicate ..
  rw [← hl0] at N1 N2
  have HA := Lib.hid hA
  have HS := Lib.hid hs
  have hu : ∀ b d b' d' l f l' f' w', Two w b d b' d' l f l' f' w' → Below w.heap.size w w' := fun _ _ _ _ _ _ _ _ _ h => h.upd.below
  have HU := Lib.hid hu
  clear hA hs hu hl0 hT hN
  generalize w.heap.size + 1 = B at N1
  generalize w.heap.size = D at N1 HU ⊢
  go_enter Tryd.func9, Tryd.ntmps9
  go_wp2_with (fail)
  refine N1.out.mono ?_
  rintro e w1 ⟨rfl, H⟩
  go_wp2_with (fail)
  refine (N2.out _ _ _ _ _ H).mono ?_
  rintro e w2 ⟨rfl, H'⟩
  clear H
  generalize w1.heap.size + 1 = B' at H' ⊢
  generalize w1.heap.size = D' at H'
  have H := Lib.hid H'
  clear H'
  go_wp2_with (fail)
  go_loopg [7] 80 (fun g v7 wl => ∃ (i f : Nat) (l : List Nat), v7 = .int .i64 (i : Int) ∧ i ≤ 80 ∧ g = 80 - i ∧ l.length = N ∧ f ≤ i ∧ Hid (Two w B D B' D' l f l f wl))
  case atStart => exact ⟨0, 0, l0, rfl, by omega, rfl, len0, by omega, H.out⟩
  case round =>
    clear H
    obtain ⟨i, f, l, rfl, hi, hg, hlen, hf, H⟩ := hrel
    rcases (by omega : (i < 80 ∧ i < asks.length) ∨ (asks.length ≤ i ∨ (i = 80 ∧ i < asks.length))) with ⟨hi80, hia⟩ | hend
    · obtain ⟨ba, oa, rfl, hba, hca⟩ := HA.out (by omega)
      have hq := hca i hia
      have k0 := hq 0 (.int .i64 (askN asks i).kind) rfl
      have k1 := hq 1 (.int .i64 (askN asks i).i) rfl
      have k2 := hq 2 (.int .u32 ((askN asks i).n : Int)) rfl
      have hn := HS.out i
      clear hq hca
      generalize askN asks i = a at k0 k1 k2 hn
      obtain ⟨kd, ai, an⟩ := a
      simp only at k0 k1 k2 hn
      have eqc : ∀ o, wr.cell? ⟨ba, o, none⟩ = w.cell? ⟨ba, o, none⟩ := fun o => World.cell?_of_block (w := w) (H.out.upd.block ba hba (by simp))
      rw [← eqc] at k0 k1 k2
      rw [Nat.add_zero] at k0
      clear eqc
      go_upto_region 8 with (fail)
      have hq0 : wr.heap.size ≠ B ∧ wr.heap.size ≠ D ∧ wr.heap.size ≠ B' ∧ wr.heap.size ≠ D' := by
        have := H.out.row.blt; have := H.out.row.dlt; have := H.out.ref.blt; have := H.out.ref.dlt
        omega
      replace H := Lib.hid (H.out.near ((Upd.refl _ _).alloc (.cells #[.int .i64 kd, .int .i64 ai, .int .u32 (an : Int)] 25)))
      have hqq := Go.heap_alloc_last wr (.cells #[.int .i64 kd, .int .i64 ai, .int .u32 (an : Int)] 25)
      generalize wr.alloc (.cells #[.int .i64 kd, .int .i64 ai, .int .u32 (an : Int)] 25) = W at H hqq ⊢
      generalize wr.heap.size = q at hqq hq0 ⊢
      have QC : Hid (∀ w', Upd [B, D, B', D'] W w' → w'.cell? ⟨q, 0, none⟩ = some (.int .i64 kd) ∧ w'.cell? ⟨q, 1, none⟩ = some (.int .i64 ai) ∧ w'.cell? ⟨q, 2, none⟩ = some (.int .u32 (an : Int))) := fun w' u => by
        have hk := cells_of (u.keep hqq (by simp; omega))
        exact ⟨by rw [hk]; rfl, by rw [hk]; rfl, by rw [hk]; rfl⟩
      have U := Lib.hid (Upd.refl [B, D, B', D'] W)
      clear hqq hq0 k0 k1 k2
      by_cases e0 : kd = 0
      · subst e0
        obtain ⟨c0, c1, c2⟩ := QC.out W U.out
        go_wp2_with (fail)
        have n1 : ∀ x : Near [B, D, B', D'] W, x.1.cell? ⟨q, 1, none⟩ = some (.int .i64 ai) := fun x => (QC.out _ x.2).2.1
        have n2 : ∀ x : Near [B, D, B', D'] W, x.1.cell? ⟨q, 2, none⟩ = some (.int .u32 (an : Int)) := fun x => (QC.out _ x.2).2.2
        refine wp_region_plan (fun z => ∃ x : Near [B, D, B', D'] W, z = x.1) [([0, 1, 2, 3, 4, 6, 7, 8, 9, 10], 5), ([], 11)] [12] (by kernel_rfl) (by kernel_rfl) (by kernel_rfl) (by kernel_rfl) (fun _ d _ _ _ h => by cases d <;> exact h) ⟨⟨W.drew, (Upd.refl _ _).drew⟩, rfl⟩ ?_
        refine plan_next ?_
        simp only [opsAt, List.map_cons, List.map_nil, List.getElem?_toArray, List.getElem?_cons_zero, List.getElem?_cons_succ, Option.getD_some]
        repeat (go_big_quiet_step (fail))
        refine wpQuiet_nil ?_
        refine plan_one rfl ?_
        replace H := Lib.hid (H.out.near (Upd.refl _ _).drew)
        replace U := Lib.hid (U.out.drew)
        go_wp2_with fail
        refine (T_put H.out ai an hn).mono ?_
        rintro e w' ⟨rfl, H', u⟩
        replace H := Lib.hid H'
        replace U := Lib.hid (U.out.trans (u.mono (by simp)))
        clear H' u
        go_wp2_with fail
        refine plan_same ⟨⟨_, U.out⟩, rfl⟩ ?_
        refine plan_next ?_
        simp only [opsAt, List.map_cons, List.map_nil, List.getElem?_toArray, List.getElem?_cons_zero, List.getElem?_cons_succ, Option.getD_some]
        repeat (go_big_quiet_step (fail))
        refine wpQuiet_nil ?_
        refine plan_one rfl ?_
        go_wp2_with fail
        refine (T_rput H.out ai an hn).mono ?_
        rintro e w' ⟨rfl, H', u⟩
        replace H := Lib.hid H'
        replace U := Lib.hid (U.out.trans (u.mono (by simp)))
        clear H' u
        go_wp2_with fail
        refine plan_same ⟨⟨_, U.out⟩, rfl⟩ ?_
        refine plan_last ?_
        simp only [opsAt, List.map_cons, List.map_nil, List.getElem?_toArray, List.getElem?_cons_zero, List.getElem?_cons_succ, Option.getD_some]
        repeat (go_big_quiet_step (fail))
        refine wpQuiet_nil ?_
        unfold planEnd
        go_wp2_with fail
        obtain ⟨l2, f2, hl2, hf2, H2⟩ : ∃ l2 f2, l2.length = N ∧ f2 ≤ i + 1 ∧ Hid (Two w B D B' D' l2 f2 l2 f2 w') := ⟨_, _, (putL_len l ai an).trans hlen, by omega, H.out⟩
        clear H
        have F1 : Hid (∀ x : Near [] w', Calls Tryd.prog 31 #[.pointer (some ⟨B, 0, none⟩)] x.1 fun e w'' => e = .returned (.int .i64 (f2 : Int)) ∧ ∃ y : Near [] w', w'' = y.1) := fun x => (Fixes_calls _ _ _ _ _ _ (H2.out.row.upd0 x.2)).mono fun _ _ ⟨he, hw⟩ => ⟨he, ⟨x, hw⟩⟩
        have r1 : ∀ x : Near [] w', x.1.cell? ⟨B', 1, none⟩ = some (.int .i64 (f2 : Int)) := fun x => by rw [cells_of (H2.out.ref.upd0 x.2).head]; rfl
        refine wp_region_near [] (by kernel_rfl) (by kernel_rfl) ?_
        repeat (go_big_quiet_step (with_reducible exact F1.out _))
        refine wpQuiet_nil ?_
        intro x
        go_wp2_with (fail)
        go_roundg (80 - (i + 1))
        case measure => omega
        case rel => exact ⟨i + 1, f2, l2, by go_num, by omega, rfl, hl2, hf2, H2.out.near x.2⟩
      · have d0 : (kd == 0) = false := by rw [beq_eq_false_iff_ne]; exact e0
        by_cases e1 : kd = 1
        · subst e1
          obtain ⟨c0, c1, c2⟩ := QC.out W U.out
          go_wp2_with (fail)
          refine (T_peek H.out ai).mono ?_
          rintro e w' ⟨rfl, H', u⟩
          replace H := Lib.hid H'
          replace U := Lib.hid (U.out.trans (u.mono (by simp)))
          clear H' u
          clear c0 c1 c2
          obtain ⟨c0, c1, c2⟩ := QC.out _ U.out
          go_wp2_with (fail)
          refine (T_rpeek H.out ai).mono ?_
          rintro e w' ⟨rfl, H', u⟩
          replace H := Lib.hid H'
          replace U := Lib.hid (U.out.trans (u.mono (by simp)))
          clear H' u
          clear c0 c1 c2
          obtain ⟨c0, c1, c2⟩ := QC.out _ U.out
          go_wp2_with (fail)
          refine (T_get H.out ai (by omega)).mono ?_
          rintro e w' ⟨rfl, H', u⟩
          replace H := Lib.hid H'
          replace U := Lib.hid (U.out.trans (u.mono (by simp)))
          clear H' u
          clear c0 c1 c2
          obtain ⟨c0, c1, c2⟩ := QC.out _ U.out
          go_wp2_with (fail)
          refine (T_rget H.out ai (by omega)).mono ?_
          rintro e w' ⟨rfl, H', u⟩
          replace H := Lib.hid H'
          replace U := Lib.hid (U.out.trans (u.mono (by simp)))
          clear H' u
          clear c0 c1 c2
          obtain ⟨c0, c1, c2⟩ := QC.out _ U.out
          go_wp2_with (fail)
          obtain ⟨l2, f2, hl2, hf2, H2⟩ : ∃ l2 f2, l2.length = N ∧ f2 ≤ i + 1 ∧ Hid (Two w B D B' D' l2 f2 l2 f2 w') := ⟨_, _, (getL_len l ai).trans hlen, by have := getF_le l ai; omega, H.out⟩
          clear H
          have F1 : Hid (∀ x : Near [] w', Calls Tryd.prog 31 #[.pointer (some ⟨B, 0, none⟩)] x.1 fun e w'' => e = .returned (.int .i64 (f2 : Int)) ∧ ∃ y : Near [] w', w'' = y.1) := fun x => (Fixes_calls _ _ _ _ _ _ (H2.out.row.upd0 x.2)).mono fun _ _ ⟨he, hw⟩ => ⟨he, ⟨x, hw⟩⟩
          have r1 : ∀ x : Near [] w', x.1.cell? ⟨B', 1, none⟩ = some (.int .i64 (f2 : Int)) := fun x => by rw [cells_of (H2.out.ref.upd0 x.2).head]; rfl
          refine wp_region_near [] (by kernel_rfl) (by kernel_rfl) ?_
          repeat (go_big_quiet_step (with_reducible exact F1.out _))
          refine wpQuiet_nil ?_
          intro x
          go_wp2_with (fail)
          go_roundg (80 - (i + 1))
          case measure => omega
          case rel => exact ⟨i + 1, f2, l2, by go_num, by omega, rfl, hl2, hf2, H2.out.near x.2⟩
        · have d1 : (kd == 1) = false := by rw [beq_eq_false_iff_ne]; exact e1
          by_cases e2 : kd = 2
          · subst e2
            obtain ⟨c0, c1, c2⟩ := QC.out W U.out
            go_wp2_with (fail)
            refine (T_peek H.out ai).mono ?_
            rintro e w' ⟨rfl, H', u⟩
            replace H := Lib.hid H'
            replace U := Lib.hid (U.out.trans (u.mono (by simp)))
            clear H' u
            clear c0 c1 c2
            obtain ⟨c0, c1, c2⟩ := QC.out _ U.out
            go_wp2_with (fail)
            refine (T_rpeek H.out ai).mono ?_
            rintro e w' ⟨rfl, H', u⟩
            replace H := Lib.hid H'
            replace U := Lib.hid (U.out.trans (u.mono (by simp)))
            clear H' u
            clear c0 c1 c2
            obtain ⟨c0, c1, c2⟩ := QC.out _ U.out
            go_wp2_with (fail)
            obtain ⟨l2, f2, hl2, hf2, H2⟩ : ∃ l2 f2, l2.length = N ∧ f2 ≤ i + 1 ∧ Hid (Two w B D B' D' l2 f2 l2 f2 w') := ⟨_, _, hlen, by omega, H.out⟩
            clear H
            have F1 : Hid (∀ x : Near [] w', Calls Tryd.prog 31 #[.pointer (some ⟨B, 0, none⟩)] x.1 fun e w'' => e = .returned (.int .i64 (f2 : Int)) ∧ ∃ y : Near [] w', w'' = y.1) := fun x => (Fixes_calls _ _ _ _ _ _ (H2.out.row.upd0 x.2)).mono fun _ _ ⟨he, hw⟩ => ⟨he, ⟨x, hw⟩⟩
            have r1 : ∀ x : Near [] w', x.1.cell? ⟨B', 1, none⟩ = some (.int .i64 (f2 : Int)) := fun x => by rw [cells_of (H2.out.ref.upd0 x.2).head]; rfl
            refine wp_region_near [] (by kernel_rfl) (by kernel_rfl) ?_
            repeat (go_big_quiet_step (with_reducible exact F1.out _))
            refine wpQuiet_nil ?_
            intro x
            go_wp2_with (fail)
            go_roundg (80 - (i + 1))
            case measure => omega
            case rel => exact ⟨i + 1, f2, l2, by go_num, by omega, rfl, hl2, hf2, H2.out.near x.2⟩
          · have d2 : (kd == 2) = false := by rw [beq_eq_false_iff_ne]; exact e2
            by_cases e3 : kd = 3
            · subst e3
              obtain ⟨c0, c1, c2⟩ := QC.out W U.out
              go_wp2_with (fail)
              refine (T_rget H.out ai (by omega)).mono ?_
              rintro e w' ⟨rfl, H', u⟩
              replace H := Lib.hid H'
              replace U := Lib.hid (U.out.trans (u.mono (by simp)))
              clear H' u
              clear c0 c1 c2
              obtain ⟨c0, c1, c2⟩ := QC.out _ U.out
              go_wp2_with (fail)
              refine (T_scrub H.out ai (by omega)).mono ?_
              rintro e w' ⟨rfl, H', u⟩
              replace H := Lib.hid H'
              replace U := Lib.hid (U.out.trans (u.mono (by simp)))
              clear H' u
              clear c0 c1 c2
              obtain ⟨c0, c1, c2⟩ := QC.out _ U.out
              go_wp2_with (fail)
              obtain ⟨l2, f2, hl2, hf2, H2⟩ : ∃ l2 f2, l2.length = N ∧ f2 ≤ i + 1 ∧ Hid (Two w B D B' D' l2 f2 l2 f2 w') := ⟨_, _, (getL_len l ai).trans hlen, by have := getF_le l ai; omega, H.out⟩
              clear H
              have F1 : Hid (∀ x : Near [] w', Calls Tryd.prog 31 #[.pointer (some ⟨B, 0, none⟩)] x.1 fun e w'' => e = .returned (.int .i64 (f2 : Int)) ∧ ∃ y : Near [] w', w'' = y.1) := fun x => (Fixes_calls _ _ _ _ _ _ (H2.out.row.upd0 x.2)).mono fun _ _ ⟨he, hw⟩ => ⟨he, ⟨x, hw⟩⟩
              have r1 : ∀ x : Near [] w', x.1.cell? ⟨B', 1, none⟩ = some (.int .i64 (f2 : Int)) := fun x => by rw [cells_of (H2.out.ref.upd0 x.2).head]; rfl
              refine wp_region_near [] (by kernel_rfl) (by kernel_rfl) ?_
              repeat (go_big_quiet_step (with_reducible exact F1.out _))
              refine wpQuiet_nil ?_
              intro x
              go_wp2_with (fail)
              go_roundg (80 - (i + 1))
              case measure => omega
              case rel => exact ⟨i + 1, f2, l2, by go_num, by omega, rfl, hl2, hf2, H2.out.near x.2⟩
            · have d3 : (kd == 3) = false := by rw [beq_eq_false_iff_ne]; exact e3
              clear e0 e1 e2 e3
              obtain ⟨c0, c1, c2⟩ := QC.out W U.out
              go_wp2_with (fail)
              have n1 : ∀ x : Near [B, D, B', D'] W, x.1.cell? ⟨q, 1, none⟩ = some (.int .i64 ai) := fun x => (QC.out _ x.2).2.1
              refine wp_region_plan (fun z => ∃ x : Near [B, D, B', D'] W, z = x.1) [([0, 1, 2, 4, 5, 6], 3), ([], 7)] [8] (by kernel_rfl) (by kernel_rfl) (by kernel_rfl) (by kernel_rfl) (fun _ d _ _ _ h => by cases d <;> exact h) ⟨⟨W.drew, (Upd.refl _ _).drew⟩, rfl⟩ ?_
              refine plan_next ?_
              simp only [opsAt, List.map_cons, List.map_nil, List.getElem?_toArray, List.getElem?_cons_zero, List.getElem?_cons_succ, Option.getD_some]
              repeat (go_big_quiet_step (fail))
              refine wpQuiet_nil ?_
              refine plan_one rfl ?_
              replace H := Lib.hid (H.out.near (Upd.refl _ _).drew)
              replace U := Lib.hid (U.out.drew)
              go_wp2_with fail
              refine (T_flip H.out ai).mono ?_
              rintro e w' ⟨rfl, H', u⟩
              replace H := Lib.hid H'
              replace U := Lib.hid (U.out.trans (u.mono (by simp)))
              clear H' u
              go_wp2_with fail
              refine plan_same ⟨⟨_, U.out⟩, rfl⟩ ?_
              refine plan_next ?_
              simp only [opsAt, List.map_cons, List.map_nil, List.getElem?_toArray, List.getElem?_cons_zero, List.getElem?_cons_succ, Option.getD_some]
              repeat (go_big_quiet_step (fail))
              refine wpQuiet_nil ?_
              refine plan_one rfl ?_
              go_wp2_with fail
              refine (T_rflip H.out ai).mono ?_
              rintro e w' ⟨rfl, H', u⟩
              replace H := Lib.hid H'
              replace U := Lib.hid (U.out.trans (u.mono (by simp)))
              clear H' u
              go_wp2_with fail
              refine plan_same ⟨⟨_, U.out⟩, rfl⟩ ?_
              refine plan_last ?_
              simp only [opsAt, List.map_cons, List.map_nil, List.getElem?_toArray, List.getElem?_cons_zero, List.getElem?_cons_succ, Option.getD_some]
              repeat (go_big_quiet_step (fail))
              refine wpQuiet_nil ?_
              unfold planEnd
              go_wp2_with fail
              obtain ⟨l2, f2, hl2, hf2, H2⟩ : ∃ l2 f2, l2.length = N ∧ f2 ≤ i + 1 ∧ Hid (Two w B D B' D' l2 f2 l2 f2 w') := ⟨_, _, (flipL_len l ai).trans hlen, by omega, H.out⟩
              clear H
              have F1 : Hid (∀ x : Near [] w', Calls Tryd.prog 31 #[.pointer (some ⟨B, 0, none⟩)] x.1 fun e w'' => e = .returned (.int .i64 (f2 : Int)) ∧ ∃ y : Near [] w', w'' = y.1) := fun x => (Fixes_calls _ _ _ _ _ _ (H2.out.row.upd0 x.2)).mono fun _ _ ⟨he, hw⟩ => ⟨he, ⟨x, hw⟩⟩
              have r1 : ∀ x : Near [] w', x.1.cell? ⟨B', 1, none⟩ = some (.int .i64 (f2 : Int)) := fun x => by rw [cells_of (H2.out.ref.upd0 x.2).head]; rfl
              refine wp_region_near [] (by kernel_rfl) (by kernel_rfl) ?_
              repeat (go_big_quiet_step (with_reducible exact F1.out _))
              refine wpQuiet_nil ?_
              intro x
              go_wp2_with (fail)
              go_roundg (80 - (i + 1))
              case measure => omega
              case rel => exact ⟨i + 1, f2, l2, by go_num, by omega, rfl, hl2, hf2, H2.out.near x.2⟩
    · have hw0 : (decide ((i : Int) < (asks.length : Int)) && decide ((i : Int) < 80)) = false := by
        rw [Bool.and_eq_false_iff, decide_eq_false_iff_not, decide_eq_false_iff_not]; omega
      clear HA HS
      generalize asks.length = m at *
      rcases hend with hend | ⟨rfl, hend⟩
      all_goals
        go_upto_region 29 with (fail)
        have hlN := hlen
        have L1 : Hid (∀ x : Near [] wr, Calls Tryd.prog 32 #[.pointer (some ⟨B, 0, none⟩)] x.1 fun e w'' => e = .returned (.int .i64 (N : Int)) ∧ ∃ y : Near [] wr, w'' = y.1) := fun x => (Len_calls _ _ _ _ _ _ (H.out.row.upd0 x.2)).mono fun _ _ ⟨he, hw⟩ => ⟨by rw [he, hlN], ⟨x, hw⟩⟩
        have L2 : Hid (∀ x : Near [] wr, Calls Tryd.prog 33 #[.pointer (some ⟨B, 0, none⟩)] x.1 fun e w'' => e = .returned (.int .i64 (39 * (N : Int))) ∧ ∃ y : Near [] wr, w'' = y.1) := fun x => (Bits_calls _ _ _ _ _ _ (H.out.row.upd0 x.2)).mono fun _ _ ⟨he, hw⟩ => ⟨by rw [he, hlN, Int.mul_comm], ⟨x, hw⟩⟩
        have r1 : ∀ x : Near [] wr, x.1.cell? ⟨B', 0, none⟩ = some (.slice (some ⟨D', 0, none⟩) N N) := fun x => by rw [cells_of (H.out.ref.upd0 x.2).head, hlN]; rfl
        refine wp_region_near [] (by kernel_rfl) (by kernel_rfl) ?_
        repeat (go_big_quiet_step (first | with_reducible exact L1.out _ | with_reducible exact L2.out _))
        refine wpQuiet_nil ?_
        intro x
        replace H := Lib.hid (H.out.near x.2)
        clear L1 L2 r1
        generalize x.1 = w3 at H ⊢
        go_wp2_with (fail)
        go_loopg [15] 91 (fun g v15 wl => ∃ j : Int, v15 = .int .i64 j ∧ -1 ≤ j ∧ j ≤ 90 ∧ g = (90 - j).toNat ∧ Hid (Two w B D B' D' l f l f wl))
        case atStart => exact ⟨-1, rfl, by omega, by omega, rfl, H.out⟩
        case round =>
          clear H
          obtain ⟨j, rfl, hj1, hj2, hgj, H⟩ := hrel
          have r1 : wr.cell? ⟨B', 0, none⟩ = some (.slice (some ⟨D', 0, none⟩) N N) := by rw [cells_of H.out.ref.head, hlN]; rfl
          rcases (by omega : (j ≤ (N : Int) ∧ j < 90) ∨ ((N : Int) < j ∨ j = 90)) with ⟨hjN, hj90⟩ | hje
          · have P1 := Lib.hid (T_peek H.out j)
            have P2 := Lib.hid fun w1 (h : Two w B D B' D' l f l f w1) => T_rpeek h j
            obtain ⟨y, z, hyz⟩ : ∃ y z, peekL l j = (y, z) := ⟨_, _, rfl⟩
            rw [hyz] at P1 P2
            clear hyz
            go_wp2_with (fail)
            refine P1.out.mono ?_
            rintro e w' ⟨rfl, H', u⟩
            replace H := Lib.hid H'
            clear H' u r1
            go_wp2_with (fail)
            refine (P2.out _ H.out).mono ?_
            rintro e w' ⟨rfl, H', u⟩
            replace H := Lib.hid H'
            clear H' u
            go_wp2_with (fail)
            go_roundg ((90 - (j + 1)).toNat)
            case measure => omega
            case rel => exact ⟨j + 1, by go_num, by omega, by omega, rfl, H.out⟩
          · have hw1 : (decide (j ≤ (N : Int)) && decide (j < 90)) = false := by
              rw [Bool.and_eq_false_iff, decide_eq_false_iff_not, decide_eq_false_iff_not]; omega
            rcases hje with hje | hje
            · go_wp2_with (fail)
              go_ret
              exact ⟨rfl, HU.out _ _ _ _ _ _ _ _ _ H.out⟩
            · subst hje
              go_wp2_with (fail)
              all_goals go_ret
              all_goals exact ⟨rfl, HU.out _ _ _ _ _ _ _ _ _ H.out⟩
end Go.Proofs.YtfnemolaoijbhabDoor
