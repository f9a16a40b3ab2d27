/- Law 14: FilePlays. -/
import Derived.Test.YtjnjpnnogdldaaaDoorL14p
import Derived.Test.YtjnjpnnogdldaaaDoorL14k
import Derived.Test.YtjnjpnnogdldaaaDoorBook
namespace Go.Proofs.YtjnjpnnogdldaaaDoor
open Go.RowKit Go.Dio
set_option linter.unusedSimpArgs false
set_option linter.unusedVariables false

theorem info_ask14 : (Tryd.prog.info? 53).map (fun i => (i.zero, i.size, i.bytes)) = some (some (.agg #[.int .i64 0, .int .i64 0, .int .u32 0]), 3, 24) := by kernel_rfl

set_option maxRecDepth 20000 in
set_option maxHeartbeats 4000000 in
theorem plays14_walk (A : Option Addr) (asks : List AskV) (c : Nat) (w : World) (hA : AsksAt w A asks) (hs : AsksOk asks) (hlc : asks.length ≤ 1048576) (hT : Tz w) :
    Calls Tryd.prog 12 #[.slice A asks.length c] w fun e w' => e = .returned (.bool true) ∧ Below w.heap.size w w' := by
  have HA := Lib.hid hA
  have HS := Lib.hid hs
  have HT := Lib.hid hT
  clear hA hs hT
  obtain ⟨m, hm⟩ : ∃ m, m = asks.length := ⟨_, rfl⟩
  rw [← hm] at hlc ⊢
  have HM := Lib.hid hm
  clear hm
  go_enter Tryd.func12, Tryd.ntmps12
  go_wp2_with (fail)
  go_loopg [3, 8] m (fun g v3 v8 wl => ∃ (k : Nat) (l : List AskV), v8 = .int .i64 (k : Int) ∧ k ≤ m ∧ g = m - k ∧ Hid (AsksOk l) ∧ Hid (wl.ownsRow w.heap.size 53 3 v3 k (askVals l)) ∧ Hid (Upd [] w wl))
  case atStart => exact ⟨0, [], rfl, by omega, rfl, Lib.hid AsksOk.nil_, ⟨rfl, Or.inl ⟨rfl, rfl⟩⟩, Upd.refl _ _⟩
  case round =>
    obtain ⟨k, l, rfl, hk, hg, HN, HO, U⟩ := hrel
    rcases Nat.lt_or_ge k m with hkm | hkm
    · obtain ⟨ba, oa, rfl, hba, hca⟩ := HA.out (by rw [← HM.out]; omega)
      have hq := hca k (by rw [← HM.out]; omega)
      have k0 := hq 0 (.int .i64 (askN asks k).kind) rfl
      have k1 := hq 1 (.int .i64 (askN asks k).i) rfl
      have k2 := hq 2 (.int .u32 ((askN asks k).n : Int)) rfl
      have hn := HS.out k
      clear hq hca
      generalize askN asks k = a at k0 k1 k2 hn
      obtain ⟨kd, ai, an⟩ := a
      obtain ⟨hn, hia, hik⟩ := hn
      simp only at k0 k1 k2 hn hia hik
      have eqc : ∀ o, wr.cell? ⟨ba, o, none⟩ = w.cell? ⟨ba, o, none⟩ := fun o => World.cell?_of_block (w := w) (U.out.block ba hba (by simp))
      rw [← eqc] at k0 k1 k2
      rw [Nat.add_zero] at k0
      have W1 := Lib.hid fun w' => Within_calls kd 0 6 w' (by omega) (by omega) (by omega) hik
      have W2 := Lib.hid fun w' => Within_calls ai (-1) 1210 w' (by omega) (by omega) (by omega) hia
      obtain ⟨b1, b2⟩ := within_range (n := kd) (show (0 : Int) ≤ 6 by omega)
      obtain ⟨b3, b4⟩ := within_range (n := ai) (show (-1 : Int) ≤ 1210 by omega)
      generalize within kd 0 6 = r1 at W1 b1 b2
      generalize within ai (-1) 1210 = r2 at W2 b3 b4
      clear eqc hia hik
      go_upto_region 6 with (fail)
      have hoq : ∀ g, u3.ownBlock = some g → g ≠ wr.heap.size := fun g hg => by have := (HO.out.lt g hg).2; omega
      have HOW := Lib.hid (own_upd HO.out ((Upd.refl [] wr).alloc (.cells #[.int .i64 kd, .int .i64 ai, .int .u32 (an : Int)] 53)) (by simp))
      have UW := Lib.hid (U.out.alloc (.cells #[.int .i64 kd, .int .i64 ai, .int .u32 (an : Int)] 53))
      have hqq := Go.heap_alloc_last wr (.cells #[.int .i64 kd, .int .i64 ai, .int .u32 (an : Int)] 53)
      have hqw : w.heap.size ≤ wr.heap.size := U.out.size
      generalize wr.alloc (.cells #[.int .i64 kd, .int .i64 ai, .int .u32 (an : Int)] 53) = W at HOW UW hqq ⊢
      generalize wr.heap.size = q at hqq hoq hqw ⊢
      clear HO U k0 k1 k2
      have c0 : W.cell? ⟨q, 0, none⟩ = some (.int .i64 kd) := by rw [cells_of hqq]; rfl
      have f0 : W.frozen? ⟨q, 0, none⟩ = false := free_of hqq 0
      go_wp2_with (fail)
      refine (W1.out _).mono ?_
      rintro e w' ⟨rfl, rfl⟩
      go_upto_region 7 with (fail)
      have U1 : Upd [q] w' (w'.setCell ⟨q, 0, none⟩ (.int .i64 r1)) := (Upd.refl [q] w').setCell (p := ⟨q, 0, none⟩) (by simp) _
      have hq1 : (w'.setCell ⟨q, 0, none⟩ (.int .i64 r1)).heap[q]? = some (.cells #[.int .i64 r1, .int .i64 ai, .int .u32 (an : Int)] 53 (0, 0)) := by
        rw [heap_setCell_eq hqq]; simp
      generalize w'.setCell ⟨q, 0, none⟩ (.int .i64 r1) = V1 at U1 hq1 ⊢
      clear c0 f0 W1
      have c1 : V1.cell? ⟨q, 1, none⟩ = some (.int .i64 ai) := by rw [cells_of hq1]; rfl
      have f1 : V1.frozen? ⟨q, 1, none⟩ = false := free_of hq1 1
      go_wp2_with (fail)
      refine (W2.out _).mono ?_
      rintro e w2 ⟨rfl, hw2⟩
      obtain rfl := hw2
      go_upto_region 8 with (fail)
      have U2 : Upd [q] w' (w2.setCell ⟨q, 1, none⟩ (.int .i64 r2)) := U1.setCell (p := ⟨q, 1, none⟩) (by simp) _
      have hq2 : (w2.setCell ⟨q, 1, none⟩ (.int .i64 r2)).heap[q]? = some (.cells #[.int .i64 r1, .int .i64 r2, .int .u32 (an : Int)] 53 (0, 0)) := by
        rw [heap_setCell_eq hq1]; simp
      generalize w2.setCell ⟨q, 1, none⟩ (.int .i64 r2) = V2 at U2 hq2 ⊢
      clear c1 f1 W2 U1 hq1
      have e0 : V2.cell? ⟨q, 0, none⟩ = some (.int .i64 r1) := by rw [cells_of hq2]; rfl
      have e1 : V2.cell? ⟨q, 1, none⟩ = some (.int .i64 r2) := by rw [cells_of hq2]; rfl
      have e1f : V2.frozen? ⟨q, 1, none⟩ = false := free_of hq2 1
      rcases Int.lt_or_le r1 4 with h4 | h4
      · go_upto_region 10 with (fail)
        have hr3 : -9223372036854775808 ≤ RowKit.wrap64 (r2.tmod 34 - 1) ∧ RowKit.wrap64 (r2.tmod 34 - 1) ≤ 9223372036854775807 := by unfold RowKit.wrap64; omega
        have U3 : Upd [q] w' (V2.setCell ⟨q, 1, none⟩ (.int .i64 (RowKit.wrap64 (r2.tmod 34 - 1)))) := U2.setCell (p := ⟨q, 1, none⟩) (by simp) _
        have hq3 : (V2.setCell ⟨q, 1, none⟩ (.int .i64 (RowKit.wrap64 (r2.tmod 34 - 1)))).heap[q]? = some (.cells #[.int .i64 r1, .int .i64 (RowKit.wrap64 (r2.tmod 34 - 1)), .int .u32 (an : Int)] 53 (0, 0)) := by
          rw [heap_setCell_eq hq2]; simp
        generalize V2.setCell ⟨q, 1, none⟩ (.int .i64 (RowKit.wrap64 (r2.tmod 34 - 1))) = W3 at U3 hq3 ⊢
        generalize RowKit.wrap64 (r2.tmod 34 - 1) = r3 at hq3 hr3 ⊢
        clear e0 e1 e1f hq2 U2
        have HO3 := Lib.hid (own_upd (own_upd HOW.out U3 (fun g hg => by simpa using hoq g hg)) ((Upd.refl [] W3).alloc (.cells #[.int .i64 r1, .int .i64 r3, .int .u32 (an : Int)] 53)) (by simp))
        have UU := Lib.hid ((UW.out.then U3 (fun x hx hlt => by simp at hx; omega)).alloc (.cells #[.int .i64 r1, .int .i64 r3, .int .u32 (an : Int)] 53))
        have t0 : W3.cell? ⟨q, 0, none⟩ = some (.int .i64 r1) := by rw [cells_of hq3]; rfl
        have t1 : W3.cell? ⟨q, 1, none⟩ = some (.int .i64 r3) := by rw [cells_of hq3]; rfl
        have t2 : W3.cell? ⟨q, 2, none⟩ = some (.int .u32 (an : Int)) := by rw [cells_of hq3]; rfl
        have hlow : ∀ g, u3.ownBlock = some g → w.heap.size ≤ g := fun g hg => (HO3.out.lt g hg).1
        clear hq3 U3
        go_wp2_with ((at_builtin; refine L_append _ (.tmp 31) (.tmp 33) 52 rfl (by kernel_rfl) w.heap.size 53 _ 3 24 Tryd.underlying52 info_ask14 rfl (by omega) u3 k (askVals l) rfl HO3.out (some ⟨W3.heap.size, 0, none⟩) 1 1 (AskV.cells ⟨r1, r3, an⟩) rfl rfl (srcAt_new W3 (AskV.cells ⟨r1, r3, an⟩) _) (by simp [AskV.cells, Value.oneCell']) (by simp only [maxLen]; omega) (by omega) UU.out.size ?_))
        intro v' w' own gr at1
        have HW := Lib.hid own
        have UG := Lib.hid (UU.out.grown gr (fun g hg hlt => by have := hlow g hg; omega))
        clear own gr at1 t0 t1 t2 HO3 UU
        go_wp2_with (fail)
        go_roundg (m - (k + 1))
        case measure => omega
        case rel => exact ⟨k + 1, l ++ [⟨r1, r3, an⟩], by go_num, by omega, rfl, Lib.hid (HN.out.snoc ⟨hn, hr3, by simp only; omega, by simp only; omega⟩), Lib.hid (by rw [askVals_snoc]; exact HW.out), UG⟩
      · go_upto_region 10 with (fail)
        have hr3 : -9223372036854775808 ≤ r2 ∧ r2 ≤ 9223372036854775807 := by omega
        have U3 := U2
        have hq3 := hq2
        clear e0 e1 e1f hq2 U2
        generalize V2 = W3 at U3 hq3 ⊢
        generalize r2 = r3 at hq3 hr3 ⊢
        have HO3 := Lib.hid (own_upd (own_upd HOW.out U3 (fun g hg => by simpa using hoq g hg)) ((Upd.refl [] W3).alloc (.cells #[.int .i64 r1, .int .i64 r3, .int .u32 (an : Int)] 53)) (by simp))
        have UU := Lib.hid ((UW.out.then U3 (fun x hx hlt => by simp at hx; omega)).alloc (.cells #[.int .i64 r1, .int .i64 r3, .int .u32 (an : Int)] 53))
        have t0 : W3.cell? ⟨q, 0, none⟩ = some (.int .i64 r1) := by rw [cells_of hq3]; rfl
        have t1 : W3.cell? ⟨q, 1, none⟩ = some (.int .i64 r3) := by rw [cells_of hq3]; rfl
        have t2 : W3.cell? ⟨q, 2, none⟩ = some (.int .u32 (an : Int)) := by rw [cells_of hq3]; rfl
        have hlow : ∀ g, u3.ownBlock = some g → w.heap.size ≤ g := fun g hg => (HO3.out.lt g hg).1
        clear hq3 U3
        go_wp2_with ((at_builtin; refine L_append _ (.tmp 31) (.tmp 33) 52 rfl (by kernel_rfl) w.heap.size 53 _ 3 24 Tryd.underlying52 info_ask14 rfl (by omega) u3 k (askVals l) rfl HO3.out (some ⟨W3.heap.size, 0, none⟩) 1 1 (AskV.cells ⟨r1, r3, an⟩) rfl rfl (srcAt_new W3 (AskV.cells ⟨r1, r3, an⟩) _) (by simp [AskV.cells, Value.oneCell']) (by simp only [maxLen]; omega) (by omega) UU.out.size ?_))
        intro v' w' own gr at1
        have HW := Lib.hid own
        have UG := Lib.hid (UU.out.grown gr (fun g hg hlt => by have := hlow g hg; omega))
        clear own gr at1 t0 t1 t2 HO3 UU
        go_wp2_with (fail)
        go_roundg (m - (k + 1))
        case measure => omega
        case rel => exact ⟨k + 1, l ++ [⟨r1, r3, an⟩], by go_num, by omega, rfl, Lib.hid (HN.out.snoc ⟨hn, hr3, by simp only; omega, by simp only; omega⟩), Lib.hid (by rw [askVals_snoc]; exact HW.out), UG⟩
    · obtain rfl : k = m := by omega
      obtain ⟨A', cap', rfl, hkl, hA'⟩ := asks_of_own HO.out
      have P1 := Lib.hid (play14_calls A' l cap' wr hA' HN.out (by omega) (HT.out.of_upd U.out (by simp)))
      have P2 := Lib.hid fun w' (u : Upd [] wr w') => play14_calls A asks c w' (HA.out.of_upd (U.out.trans u)) HS.out (by rw [← HM.out]; omega) (HT.out.of_upd (U.out.trans u) (by simp))
      have K3 := Lib.hid fun w' (u : Upd [] wr w') => known14_calls w' (HT.out.of_upd (U.out.trans u) (by simp))
      rw [← HM.out] at P2
      rw [← hkl] at P1 ⊢
      replace hkl := Lib.hid hkl
      have V := Lib.hid (Upd.refl [] wr)
      go_wp2_with (fail)
      refine P1.out.mono ?_
      rintro e w1 ⟨rfl, hb⟩
      replace V := Lib.hid (V.out.trans (Upd.of_below hb))
      clear hb
      go_wp2_with (fail)
      refine (P2.out _ V.out).mono ?_
      rintro e w1 ⟨rfl, hb⟩
      replace V := Lib.hid (V.out.trans (Upd.of_below hb))
      clear hb
      go_wp2_with (fail)
      refine (K3.out _ V.out).mono ?_
      rintro e w1 ⟨rfl, hb⟩
      replace V := Lib.hid (V.out.trans (Upd.of_below hb))
      clear hb
      go_wp2_with (fail)
      go_ret
      exact ⟨rfl, (U.out.trans V.out).below⟩
end Go.Proofs.YtjnjpnnogdldaaaDoor
