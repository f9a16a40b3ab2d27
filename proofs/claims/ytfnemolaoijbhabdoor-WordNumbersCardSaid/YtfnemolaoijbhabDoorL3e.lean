/- Law 3: WordPlays. -/
import Derived.Test.YtfnemolaoijbhabDoorL3d
import Derived.Test.YtfnemolaoijbhabDoorL3f
import Derived.Test.YtfnemolaoijbhabDoorSeg
import Derived.Test.YtfnemolaoijbhabDoorApp
namespace Go.Proofs.YtfnemolaoijbhabDoor
open Go.RowKit Go.Dio
set_option linter.unusedSimpArgs false
set_option linter.unusedVariables false

/-- A number is cut down to some number. -/
theorem Within_a (n : Int) (w : World) : Calls Tryd.prog 11 #[.int .i64 n, .int .i64 0, .int .i64 6] w fun e w' => (∃ r : Int, e = .returned (.int .i64 r)) ∧ w' = w := by
  go_enter Tryd.func11, Tryd.ntmps11
  go_wp2_with (fail)
  all_goals go_ret
  all_goals exact ⟨⟨_, rfl⟩, rfl⟩
theorem Within_b (n : Int) (w : World) : Calls Tryd.prog 11 #[.int .i64 n, .int .i64 (-1), .int .i64 160] w fun e w' => (∃ r : Int, e = .returned (.int .i64 r)) ∧ w' = w := by
  go_enter Tryd.func11, Tryd.ntmps11
  go_wp2_with (fail)
  all_goals go_ret
  all_goals exact ⟨⟨_, rfl⟩, rfl⟩
theorem Within_c (n : Int) (w : World) : Calls Tryd.prog 11 #[.int .i64 n, .int .i64 (-2), .int .i64 9] w fun e w' => (∃ r : Int, e = .returned (.int .i64 r)) ∧ w' = w := by
  go_enter Tryd.func11, Tryd.ntmps11
  go_wp2_with (fail)
  all_goals go_ret
  all_goals exact ⟨⟨_, rfl⟩, rfl⟩

theorem askN_snoc {l : List AskV} {a : AskV} (h : ∀ j, (askN l j).n < 2 ^ 32) (ha : a.n < 2 ^ 32) : ∀ j, (askN (l ++ [a]) j).n < 2 ^ 32 := fun j => by
  rcases Nat.lt_trichotomy j l.length with hj | hj | hj
  · have := h j
    simp only [askN, List.getD, List.getElem?_append_left hj] at this ⊢
    exact this
  · subst hj; simpa [askN] using ha
  · have e : askN (l ++ [a]) j = default := by simp [askN, List.getD, List.getElem?_eq_none (show (l ++ [a]).length ≤ j by simp; omega)]
    rw [e]; decide

theorem info_ask : (Tryd.prog.info? 25).map (fun i => (i.zero, i.size, i.bytes)) = some (some (.agg #[.int .i64 0, .int .i64 0, .int .u32 0]), 3, 24) := by kernel_rfl

set_option maxRecDepth 20000 in
set_option maxHeartbeats 4000000 in
theorem plays3_walk (size : Int) (A : Option Addr) (asks : List AskV) (c : Nat) (w : World) (hA : AsksAt w A asks) (hs : ∀ k, (askN asks k).n < 2 ^ 32) (hlc : asks.length ≤ 1048576) (hT : Tz w) :
    Calls Tryd.prog 4 #[.int .i64 size, .slice A asks.length c] w fun e w' => e = .returned (.bool true) ∧ Below w.heap.size w w' := by
  have HA := Lib.hid hA
  have HS := Lib.hid hs
  have HT := Lib.hid hT
  clear hA hs hT
  obtain ⟨m, hm⟩ : ∃ m, m = asks.length := ⟨_, rfl⟩
  rw [← hm] at hlc ⊢
  have HM := Lib.hid hm
  clear hm
  go_enter Tryd.func4, Tryd.ntmps4
  go_wp2_with (fail)
  go_loopg [5, 10] m (fun g v5 v10 wl => ∃ (k : Nat) (l : List AskV), v10 = .int .i64 (k : Int) ∧ k ≤ m ∧ g = m - k ∧ Hid (∀ j, (askN l j).n < 2 ^ 32) ∧ Hid (wl.ownsRow w.heap.size 25 3 v5 k (askVals l)) ∧ Hid (Upd [] w wl))
  case atStart => exact ⟨0, [], rfl, by omega, rfl, fun j => by simp [askN, default], ⟨rfl, Or.inl ⟨rfl, rfl⟩⟩, Upd.refl _ _⟩
  case round =>
    obtain ⟨k, l, rfl, hk, hg, HN, HO, U⟩ := hrel
    rcases Nat.lt_or_ge k m with hkm | hkm
    · obtain ⟨ba, oa, rfl, hba, hca⟩ := HA.out (by rw [← HM.out]; omega)
      have hq := hca k (by rw [← HM.out]; omega)
      have k0 := hq 0 (.int .i64 (askN asks k).kind) rfl
      have k1 := hq 1 (.int .i64 (askN asks k).i) rfl
      have k2 := hq 2 (.int .u32 ((askN asks k).n : Int)) rfl
      have hn := HS.out k
      clear hq hca
      generalize askN asks k = a at k0 k1 k2 hn
      obtain ⟨kd, ai, an⟩ := a
      simp only at k0 k1 k2 hn
      have eqc : ∀ o, wr.cell? ⟨ba, o, none⟩ = w.cell? ⟨ba, o, none⟩ := fun o => World.cell?_of_block (w := w) (U.out.block ba hba (by simp))
      rw [← eqc] at k0 k1 k2
      rw [Nat.add_zero] at k0
      clear eqc
      go_upto_region 6 with (fail)
      have hoq : ∀ g, u5.ownBlock = some g → g ≠ wr.heap.size := fun g hg => by have := (HO.out.lt g hg).2; omega
      have HOW := Lib.hid (own_upd HO.out ((Upd.refl [] wr).alloc (.cells #[.int .i64 kd, .int .i64 ai, .int .u32 (an : Int)] 25)) (by simp))
      have UW := Lib.hid (U.out.alloc (.cells #[.int .i64 kd, .int .i64 ai, .int .u32 (an : Int)] 25))
      have hqq := Go.heap_alloc_last wr (.cells #[.int .i64 kd, .int .i64 ai, .int .u32 (an : Int)] 25)
      have hqw : w.heap.size ≤ wr.heap.size := U.out.size
      generalize wr.alloc (.cells #[.int .i64 kd, .int .i64 ai, .int .u32 (an : Int)] 25) = W at HOW UW hqq ⊢
      generalize wr.heap.size = q at hqq hoq hqw ⊢
      clear HO U k0 k1 k2
      have n0 : ∀ x : Near [] W, x.1.cell? ⟨q, 0, none⟩ = some (.int .i64 kd) := fun x => by rw [cells_of (x.2.keep hqq (by simp))]; rfl
      have n1 : ∀ x : Near [] W, x.1.cell? ⟨q, 1, none⟩ = some (.int .i64 ai) := fun x => by rw [cells_of (x.2.keep hqq (by simp))]; rfl
      refine wp_region_segs [([([0, 1, 3, 4], 2), ([6], 5)], []), ([([], 7), ([8], 9)], [])] (by kernel_rfl) (by kernel_rfl) (by kernel_rfl) (by kernel_rfl) (fun _ d _ _ _ h => by cases d <;> exact h) ?_
      have U0 : Upd [] W W.drew := (Upd.refl _ _).drew
      refine segs_part (fun z => ∃ x : Near [] W, z = x.1) ⟨⟨_, U0⟩, rfl⟩ ?_
      refine part_next ?_
      simp only [opsAt, List.map_cons, List.map_nil, List.getElem?_toArray, List.getElem?_cons_zero, List.getElem?_cons_succ, Option.getD_some]
      repeat (go_big_quiet_step (fail))
      refine wpQuiet_nil ?_
      refine part_one rfl ?_
      go_wp2_with fail
      refine (Within_a kd _).mono ?_
      rintro e w' ⟨⟨r1, rfl⟩, rfl⟩
      go_wp2_with fail
      refine part_same ⟨⟨_, U0⟩, rfl⟩ ?_
      refine part_next ?_
      simp only [opsAt, List.map_cons, List.map_nil, List.getElem?_toArray, List.getElem?_cons_zero, List.getElem?_cons_succ, Option.getD_some]
      repeat (go_big_quiet_step (fail))
      refine wpQuiet_nil ?_
      refine part_one rfl ?_
      go_wp2_with fail
      refine (Within_b ai _).mono ?_
      rintro e w' ⟨⟨r2, rfl⟩, rfl⟩
      go_wp2_with fail
      refine part_same ⟨⟨_, U0⟩, rfl⟩ ?_
      refine part_last ?_
      simp only [opsAt, List.map_cons, List.map_nil, List.getElem?_toArray, List.getElem?_cons_zero, List.getElem?_cons_succ, Option.getD_some]
      repeat (go_big_quiet_step (fail))
      refine wpQuiet_nil ?_
      unfold partEnd
      refine segs_part (fun z => ∃ x : Near [q] W, z = x.1) ⟨⟨_, U0.mono (by simp)⟩, rfl⟩ ?_
      refine part_next ?_
      simp only [opsAt, List.map_cons, List.map_nil, List.getElem?_toArray, List.getElem?_cons_zero, List.getElem?_cons_succ, Option.getD_some]
      repeat (go_big_quiet_step (fail))
      refine wpQuiet_nil ?_
      refine part_one rfl ?_
      have hqd : W.drew.heap[q]? = some (.cells #[.int .i64 kd, .int .i64 ai, .int .u32 (an : Int)] 25 (0, 0)) := hqq
      have d0 : W.drew.cell? ⟨q, 0, none⟩ = some (.int .i64 kd) := by rw [cells_of hqd]; rfl
      have f0 : W.drew.frozen? ⟨q, 0, none⟩ = false := free_of hqd 0
      go_wp2_with fail
      have U1 : Upd [q] W (W.setCell ⟨q, 0, none⟩ (.int .i64 r1)).drew := ((Upd.refl [q] W).setCell (p := ⟨q, 0, none⟩) (by simp) _).drew
      have hq1 : (W.setCell ⟨q, 0, none⟩ (.int .i64 r1)).drew.heap[q]? = some (.cells #[.int .i64 r1, .int .i64 ai, .int .u32 (an : Int)] 25 (0, 0)) := by
        show (W.setCell ⟨q, 0, none⟩ (.int .i64 r1)).heap[q]? = _
        rw [heap_setCell_eq hqq]; simp
      generalize (W.setCell ⟨q, 0, none⟩ (.int .i64 r1)).drew = W1 at U1 hq1 ⊢
      refine part_same ⟨⟨_, U1⟩, rfl⟩ ?_
      refine part_next ?_
      simp only [opsAt, List.map_cons, List.map_nil, List.getElem?_toArray, List.getElem?_cons_zero, List.getElem?_cons_succ, Option.getD_some]
      repeat (go_big_quiet_step (fail))
      refine wpQuiet_nil ?_
      refine part_one rfl ?_
      have d1 : W1.cell? ⟨q, 1, none⟩ = some (.int .i64 ai) := by rw [cells_of hq1]; rfl
      have f1 : W1.frozen? ⟨q, 1, none⟩ = false := free_of hq1 1
      clear d0 f0 hqd
      go_wp2_with fail
      have U2 : Upd [q] W (W1.setCell ⟨q, 1, none⟩ (.int .i64 r2)) := U1.setCell (p := ⟨q, 1, none⟩) (by simp) _
      have hq2 : (W1.setCell ⟨q, 1, none⟩ (.int .i64 r2)).heap[q]? = some (.cells #[.int .i64 r1, .int .i64 r2, .int .u32 (an : Int)] 25 (0, 0)) := by
        rw [heap_setCell_eq hq1]; simp
      generalize W1.setCell ⟨q, 1, none⟩ (.int .i64 r2) = W2 at U2 hq2 ⊢
      refine part_same ⟨⟨_, U2⟩, rfl⟩ ?_
      refine part_last ?_
      simp only [opsAt, List.map_nil]
      refine wpQuiet_nil ?_
      unfold partEnd
      refine segs_end ?_
      clear d1 f1 hq1 U1 n0 n1 U0 hqq
      have e0 : W2.cell? ⟨q, 0, none⟩ = some (.int .i64 r1) := by rw [cells_of hq2]; rfl
      have e1 : W2.cell? ⟨q, 1, none⟩ = some (.int .i64 r2) := by rw [cells_of hq2]; rfl
      have e1f : W2.frozen? ⟨q, 1, none⟩ = false := free_of hq2 1
      rcases Int.lt_or_le r1 4 with h4 | h4
      · go_upto_region 9 with (fail)
        have U3 : Upd [q] W (W2.setCell ⟨q, 1, none⟩ (.int .i64 (RowKit.wrap64 (r2.tmod 5 - 1)))) := U2.setCell (p := ⟨q, 1, none⟩) (by simp) _
        have hq3 : (W2.setCell ⟨q, 1, none⟩ (.int .i64 (RowKit.wrap64 (r2.tmod 5 - 1)))).heap[q]? = some (.cells #[.int .i64 r1, .int .i64 (RowKit.wrap64 (r2.tmod 5 - 1)), .int .u32 (an : Int)] 25 (0, 0)) := by
          rw [heap_setCell_eq hq2]; simp
        generalize W2.setCell ⟨q, 1, none⟩ (.int .i64 (RowKit.wrap64 (r2.tmod 5 - 1))) = W3 at U3 hq3 ⊢
        generalize RowKit.wrap64 (r2.tmod 5 - 1) = r3 at hq3 ⊢
        clear e0 e1 e1f hq2 U2
        have HO3 := Lib.hid (own_upd (own_upd HOW.out U3 (fun g hg => by simpa using hoq g hg)) ((Upd.refl [] W3).alloc (.cells #[.int .i64 r1, .int .i64 r3, .int .u32 (an : Int)] 25)) (by simp))
        have UU := Lib.hid ((UW.out.then U3 (fun x hx hlt => by simp at hx; omega)).alloc (.cells #[.int .i64 r1, .int .i64 r3, .int .u32 (an : Int)] 25))
        have t0 : W3.cell? ⟨q, 0, none⟩ = some (.int .i64 r1) := by rw [cells_of hq3]; rfl
        have t1 : W3.cell? ⟨q, 1, none⟩ = some (.int .i64 r3) := by rw [cells_of hq3]; rfl
        have t2 : W3.cell? ⟨q, 2, none⟩ = some (.int .u32 (an : Int)) := by rw [cells_of hq3]; rfl
        have hlow : ∀ g, u5.ownBlock = some g → w.heap.size ≤ g := fun g hg => (HO3.out.lt g hg).1
        clear hq3 U3
        go_wp2_with ((at_builtin; refine L_append _ (.tmp 33) (.tmp 35) 22 rfl (by kernel_rfl) w.heap.size 25 _ 3 24 Tryd.underlying22 info_ask rfl (by omega) u5 k (askVals l) rfl HO3.out (some ⟨W3.heap.size, 0, none⟩) 1 1 (AskV.cells ⟨r1, r3, an⟩) rfl rfl (srcAt_new W3 (AskV.cells ⟨r1, r3, an⟩) _) (by simp [AskV.cells, Value.oneCell']) (by simp only [maxLen]; omega) (by omega) UU.out.size ?_))
        intro v' w' own gr at1
        have HW := Lib.hid own
        have UG := Lib.hid (UU.out.grown gr (fun g hg hlt => by have := hlow g hg; omega))
        clear own gr at1 t0 t1 t2 HO3 UU
        go_wp2_with (fail)
        go_roundg (m - (k + 1))
        case measure => omega
        case rel => exact ⟨k + 1, l ++ [⟨r1, r3, an⟩], by go_num, by omega, rfl, askN_snoc HN.out hn, by rw [askVals_snoc]; exact HW.out, UG.out⟩
      · go_upto_region 9 with (fail)
        have U3 := U2
        have hq3 := hq2
        clear e0 e1 e1f hq2 U2
        generalize W2 = W3 at U3 hq3 ⊢
        generalize r2 = r3 at hq3 ⊢
        have HO3 := Lib.hid (own_upd (own_upd HOW.out U3 (fun g hg => by simpa using hoq g hg)) ((Upd.refl [] W3).alloc (.cells #[.int .i64 r1, .int .i64 r3, .int .u32 (an : Int)] 25)) (by simp))
        have UU := Lib.hid ((UW.out.then U3 (fun x hx hlt => by simp at hx; omega)).alloc (.cells #[.int .i64 r1, .int .i64 r3, .int .u32 (an : Int)] 25))
        have t0 : W3.cell? ⟨q, 0, none⟩ = some (.int .i64 r1) := by rw [cells_of hq3]; rfl
        have t1 : W3.cell? ⟨q, 1, none⟩ = some (.int .i64 r3) := by rw [cells_of hq3]; rfl
        have t2 : W3.cell? ⟨q, 2, none⟩ = some (.int .u32 (an : Int)) := by rw [cells_of hq3]; rfl
        have hlow : ∀ g, u5.ownBlock = some g → w.heap.size ≤ g := fun g hg => (HO3.out.lt g hg).1
        clear hq3 U3
        go_wp2_with ((at_builtin; refine L_append _ (.tmp 33) (.tmp 35) 22 rfl (by kernel_rfl) w.heap.size 25 _ 3 24 Tryd.underlying22 info_ask rfl (by omega) u5 k (askVals l) rfl HO3.out (some ⟨W3.heap.size, 0, none⟩) 1 1 (AskV.cells ⟨r1, r3, an⟩) rfl rfl (srcAt_new W3 (AskV.cells ⟨r1, r3, an⟩) _) (by simp [AskV.cells, Value.oneCell']) (by simp only [maxLen]; omega) (by omega) UU.out.size ?_))
        intro v' w' own gr at1
        have HW := Lib.hid own
        have UG := Lib.hid (UU.out.grown gr (fun g hg hlt => by have := hlow g hg; omega))
        clear own gr at1 t0 t1 t2 HO3 UU
        go_wp2_with (fail)
        go_roundg (m - (k + 1))
        case measure => omega
        case rel => exact ⟨k + 1, l ++ [⟨r1, r3, an⟩], by go_num, by omega, rfl, askN_snoc HN.out hn, by rw [askVals_snoc]; exact HW.out, UG.out⟩
    · obtain rfl : k = m := by omega
      obtain ⟨A', cap', rfl, hkl, hA'⟩ := asks_of_own HO.out
      have P1 := Lib.hid fun w' (u : Upd [] wr w') => play3_calls 4 A' l cap' w' (hA'.of_upd u) HN.out (by omega) (HT.out.of_upd (U.out.trans u) (by simp))
      have P2 := Lib.hid fun (sz : Int) w' (u : Upd [] wr w') => play3_calls sz A asks c w' (HA.out.of_upd (U.out.trans u)) HS.out (by rw [← HM.out]; omega) (HT.out.of_upd (U.out.trans u) (by simp))
      have K3 := Lib.hid fun w' (u : Upd [] wr w') => known3_calls w' (HT.out.of_upd (U.out.trans u) (by simp))
      rw [← HM.out] at P2
      rw [← hkl] at P1 ⊢
      replace hkl := Lib.hid hkl
      have V := Lib.hid (Upd.refl [] wr)
      go_wp2_with (fail)
      refine (P1.out _ V.out).mono ?_
      rintro e w1 ⟨rfl, hb⟩
      replace V := Lib.hid (V.out.trans (Upd.of_below hb))
      clear hb
      go_wp2_with (fail)
      refine (Within_c size _).mono ?_
      rintro e w' ⟨⟨r, rfl⟩, rfl⟩
      go_wp2_with (fail)
      refine (P2.out r _ V.out).mono ?_
      rintro e w1 ⟨rfl, hb⟩
      replace V := Lib.hid (V.out.trans (Upd.of_below hb))
      clear hb
      go_wp2_with (fail)
      refine (P2.out size _ V.out).mono ?_
      rintro e w1 ⟨rfl, hb⟩
      replace V := Lib.hid (V.out.trans (Upd.of_below hb))
      clear hb
      go_wp2_with (fail)
      refine (K3.out _ V.out).mono ?_
      rintro e w1 ⟨rfl, hb⟩
      replace V := Lib.hid (V.out.trans (Upd.of_below hb))
      clear hb
      go_wp2_with (fail)
      go_ret
      exact ⟨rfl, (U.out.trans V.out).below⟩
end Go.Proofs.YtfnemolaoijbhabDoor
