/- Law 3: WordNumbers. -/
import Derived.Test.YtfnemolaoijbhabDoorL3e
namespace Go.Proofs.YtfnemolaoijbhabDoor
open Go.RowKit Go.Dio
set_option linter.unusedSimpArgs false
set_option linter.unusedVariables false

theorem tmod_bd (x : Int) : -9223372036854775808 ≤ x.tmod 170 ∧ x.tmod 170 ≤ 9223372036854775807 := by
  have h1 := Int.lt_tmod_of_pos x (show (0 : Int) < 170 by decide)
  have h2 := Int.tmod_lt_of_pos x (show (0 : Int) < 170 by decide)
  omega
set_option maxRecDepth 20000 in
set_option maxHeartbeats 4000000 in
theorem numbers3_walk (w : World) (hT : Tz w) : Calls Tryd.prog 3 #[] w fun e w' => e = .returned (.bool true) ∧ Below w.heap.size w w' := by
  have HT := Lib.hid hT
  clear hT
  go_enter Tryd.func3, Tryd.ntmps3
  go_wp2_with (fail)
  go_loopg [1] 30 (fun g v1 wl => ∃ k : Nat, v1 = .int .i64 (k : Int) ∧ k ≤ 30 ∧ g = 30 - k ∧ Hid (Upd [] w wl))
  case atStart => exact ⟨0, rfl, by omega, rfl, Upd.refl _ _⟩
  case round =>
    obtain ⟨k, rfl, hk, hg, U⟩ := hrel
    rcases Nat.lt_or_ge k 30 with h30 | h30
    · have d30 : decide ((k : Int) < 30) = true := decide_eq_true (by omega)
      go_wp2_with (fail)
      go_loopg [2, 3] 70 (fun g v2 v3 wl => ∃ (i : Nat) (l : List AskV), v3 = .int .i64 (i : Int) ∧ i ≤ 70 ∧ g = 70 - i ∧ Hid (AsksOk l) ∧ Hid (wl.ownsRow w.heap.size 25 3 v2 i (askVals l)) ∧ Hid (Upd [] w wl))
      case atStart => exact ⟨0, [], rfl, by omega, rfl, Lib.hid AsksOk.nil_, ⟨rfl, Or.inl ⟨rfl, rfl⟩⟩, U⟩
      case round =>
        clear U
        obtain ⟨i, l, rfl, hi, hgi, HN, HO, U⟩ := hrel
        rcases Nat.lt_or_ge i 70 with h70 | h70
        · go_upto_region 9 with (fail)
          have hr1 : -7 < (RowKit.wrap64 (RowKit.wrap64 ((i : Int) * i) + k)).tmod 7 ∧ (RowKit.wrap64 (RowKit.wrap64 ((i : Int) * i) + k)).tmod 7 < 7 := ⟨Int.lt_tmod_of_pos _ (by omega), Int.tmod_lt_of_pos _ (by omega)⟩
          have hr3 : -9223372036854775808 ≤ ((i : Int) * 7 + k) % 5 - 1 ∧ ((i : Int) * 7 + k) % 5 - 1 ≤ 9223372036854775807 := by omega
          have ea : ((i : Int) * 19088743) = ((i * 19088743 : Nat) : Int) := by simp
          have hn : i * 19088743 < 2 ^ 32 := by omega
          rw [ea]
          clear ea
          generalize i * 19088743 = an at hn ⊢
          generalize ((i : Int) * 7 + k) % 5 - 1 = r2 at hr3 ⊢
          generalize (RowKit.wrap64 (RowKit.wrap64 ((i : Int) * i) + k)).tmod 7 = r1 at hr1 ⊢
          have hoq : ∀ g, u2.ownBlock = some g → g ≠ wr.heap.size := fun g hg => by have := (HO.out.lt g hg).2; omega
          have HOW := Lib.hid (own_upd HO.out ((Upd.refl [] wr).alloc (.cells #[.int .i64 r1, .int .i64 r2, .int .u32 (an : Int)] 25)) (by simp))
          have UW := Lib.hid (U.out.alloc (.cells #[.int .i64 r1, .int .i64 r2, .int .u32 (an : Int)] 25))
          have hqq := Go.heap_alloc_last wr (.cells #[.int .i64 r1, .int .i64 r2, .int .u32 (an : Int)] 25)
          have hqw : w.heap.size ≤ wr.heap.size := U.out.size
          generalize wr.alloc (.cells #[.int .i64 r1, .int .i64 r2, .int .u32 (an : Int)] 25) = W at HOW UW hqq ⊢
          generalize wr.heap.size = q at hqq hoq hqw ⊢
          clear HO U
          have e0 : W.cell? ⟨q, 0, none⟩ = some (.int .i64 r1) := by rw [cells_of hqq]; rfl
          have e1 : W.cell? ⟨q, 1, none⟩ = some (.int .i64 r2) := by rw [cells_of hqq]; rfl
          have e1f : W.frozen? ⟨q, 1, none⟩ = false := free_of hqq 1
          rcases Int.lt_or_le 3 r1 with h4 | h4
          · go_upto_region 11 with (fail)
            have hr4 := tmod_bd (RowKit.wrap64 (RowKit.wrap64 (RowKit.wrap64 ((i : Int) * i) * 31) + k * 17))
            generalize (RowKit.wrap64 (RowKit.wrap64 (RowKit.wrap64 ((i : Int) * i) * 31) + k * 17)).tmod 170 = r3 at hr4 ⊢
            have U3 : Upd [q] W (W.setCell ⟨q, 1, none⟩ (.int .i64 r3)) := (Upd.refl [q] W).setCell (p := ⟨q, 1, none⟩) (by simp) _
            have hq3 : (W.setCell ⟨q, 1, none⟩ (.int .i64 r3)).heap[q]? = some (.cells #[.int .i64 r1, .int .i64 r3, .int .u32 (an : Int)] 25 (0, 0)) := by
              rw [heap_setCell_eq hqq]; simp
            generalize W.setCell ⟨q, 1, none⟩ (.int .i64 r3) = W3 at U3 hq3 ⊢
            clear e0 e1 e1f hqq
            have HO3 := Lib.hid (own_upd (own_upd HOW.out U3 (fun g hg => by simpa using hoq g hg)) ((Upd.refl [] W3).alloc (.cells #[.int .i64 r1, .int .i64 r3, .int .u32 (an : Int)] 25)) (by simp))
            have UU := Lib.hid ((UW.out.then U3 (fun x hx hlt => by simp at hx; omega)).alloc (.cells #[.int .i64 r1, .int .i64 r3, .int .u32 (an : Int)] 25))
            have t0 : W3.cell? ⟨q, 0, none⟩ = some (.int .i64 r1) := by rw [cells_of hq3]; rfl
            have t1 : W3.cell? ⟨q, 1, none⟩ = some (.int .i64 r3) := by rw [cells_of hq3]; rfl
            have t2 : W3.cell? ⟨q, 2, none⟩ = some (.int .u32 (an : Int)) := by rw [cells_of hq3]; rfl
            have hlow : ∀ g, u2.ownBlock = some g → w.heap.size ≤ g := fun g hg => (HO3.out.lt g hg).1
            clear hq3 U3
            go_wp2_with ((at_builtin; refine L_append _ (.tmp 41) (.tmp 43) 22 rfl (by kernel_rfl) w.heap.size 25 _ 3 24 Tryd.underlying22 info_ask rfl (by omega) u2 i (askVals l) rfl HO3.out (some ⟨W3.heap.size, 0, none⟩) 1 1 (AskV.cells ⟨r1, r3, an⟩) rfl rfl (srcAt_new W3 (AskV.cells ⟨r1, r3, an⟩) _) (by simp [AskV.cells, Value.oneCell']) (by simp only [maxLen]; omega) (by omega) UU.out.size ?_))
            intro v' w' own gr at1
            have HW := Lib.hid own
            have UG := Lib.hid (UU.out.grown gr (fun g hg hlt => by have := hlow g hg; omega))
            clear own gr at1 t0 t1 t2 HO3 UU
            go_wp2_with (fail)
            go_roundg (70 - (i + 1))
            case measure => omega
            case rel => exact ⟨i + 1, l ++ [⟨r1, r3, an⟩], by go_num, by omega, rfl, Lib.hid (HN.out.snoc ⟨hn, hr4, by simp only; omega, by simp only; omega⟩), Lib.hid (by rw [askVals_snoc]; exact HW.out), UG⟩
          · go_upto_region 11 with (fail)
            obtain ⟨W3, hW3⟩ : ∃ W3, W3 = W := ⟨_, rfl⟩
            have U3 : Upd [q] W W3 := by rw [hW3]; exact Upd.refl _ _
            have hq3 : W3.heap[q]? = some (.cells #[.int .i64 r1, .int .i64 r2, .int .u32 (an : Int)] 25 (0, 0)) := by rw [hW3]; exact hqq
            rw [← hW3]
            clear e0 e1 e1f hqq hW3
            generalize r2 = r3 at hr3 hq3 ⊢
            have hr4 := hr3
            have HO3 := Lib.hid (own_upd (own_upd HOW.out U3 (fun g hg => by simpa using hoq g hg)) ((Upd.refl [] W3).alloc (.cells #[.int .i64 r1, .int .i64 r3, .int .u32 (an : Int)] 25)) (by simp))
            have UU := Lib.hid ((UW.out.then U3 (fun x hx hlt => by simp at hx; omega)).alloc (.cells #[.int .i64 r1, .int .i64 r3, .int .u32 (an : Int)] 25))
            have t0 : W3.cell? ⟨q, 0, none⟩ = some (.int .i64 r1) := by rw [cells_of hq3]; rfl
            have t1 : W3.cell? ⟨q, 1, none⟩ = some (.int .i64 r3) := by rw [cells_of hq3]; rfl
            have t2 : W3.cell? ⟨q, 2, none⟩ = some (.int .u32 (an : Int)) := by rw [cells_of hq3]; rfl
            have hlow : ∀ g, u2.ownBlock = some g → w.heap.size ≤ g := fun g hg => (HO3.out.lt g hg).1
            clear hq3 U3
            go_wp2_with ((at_builtin; refine L_append _ (.tmp 41) (.tmp 43) 22 rfl (by kernel_rfl) w.heap.size 25 _ 3 24 Tryd.underlying22 info_ask rfl (by omega) u2 i (askVals l) rfl HO3.out (some ⟨W3.heap.size, 0, none⟩) 1 1 (AskV.cells ⟨r1, r3, an⟩) rfl rfl (srcAt_new W3 (AskV.cells ⟨r1, r3, an⟩) _) (by simp [AskV.cells, Value.oneCell']) (by simp only [maxLen]; omega) (by omega) UU.out.size ?_))
            intro v' w' own gr at1
            have HW := Lib.hid own
            have UG := Lib.hid (UU.out.grown gr (fun g hg hlt => by have := hlow g hg; omega))
            clear own gr at1 t0 t1 t2 HO3 UU
            go_wp2_with (fail)
            go_roundg (70 - (i + 1))
            case measure => omega
            case rel => exact ⟨i + 1, l ++ [⟨r1, r3, an⟩], by go_num, by omega, rfl, Lib.hid (HN.out.snoc ⟨hn, hr4, by simp only; omega, by simp only; omega⟩), Lib.hid (by rw [askVals_snoc]; exact HW.out), UG⟩
        · obtain rfl : i = 70 := by omega
          obtain ⟨A', cap', rfl, hkl, hA'⟩ := asks_of_own HO.out
          have P1 := Lib.hid (play3_calls (((k : Int)) % 5) A' l cap' wr hA' (fun j => (HN.out j).1) (by omega) (HT.out.of_upd U.out (by simp)))
          rw [← hkl] at P1 ⊢
          clear hkl
          go_wp2_with (fail)
          refine P1.out.mono ?_
          rintro e w1 ⟨rfl, hb⟩
          replace U := Lib.hid (U.out.trans (Upd.of_below hb))
          clear hb
          go_wp2_with (fail)
          go_roundg (30 - (k + 1))
          case measure => omega
          case rel => exact ⟨k + 1, by go_num, by omega, rfl, U⟩
    · have P0 := Lib.hid fun (sz : Int) w' (u : Upd [] w w') => play3_calls sz none [] 0 w' (fun h => absurd h (by simp)) (fun j => (AsksOk.nil_ j).1) (by decide) (HT.out.of_upd u (by simp))
      have hok : AsksOk [⟨0, 2047, 7⟩, ⟨4, 79871, 0⟩, ⟨4, 79872, 0⟩, ⟨1, 2047, 0⟩] := by
        have := (((AsksOk.nil_.snoc (a := ⟨0, 2047, 7⟩) ⟨by decide, by decide, by decide, by decide⟩).snoc (a := ⟨4, 79871, 0⟩) ⟨by decide, by decide, by decide, by decide⟩).snoc (a := ⟨4, 79872, 0⟩) ⟨by decide, by decide, by decide, by decide⟩).snoc (a := ⟨1, 2047, 0⟩) ⟨by decide, by decide, by decide, by decide⟩
        exact this
      have hok' := Lib.hid fun j => (hok j).1
      have K3 := Lib.hid fun w' (u : Upd [] w w') => known3_calls w' (HT.out.of_upd u (by simp))
      clear hok
      go_wp2_with (fail)
      refine (P0.out _ _ U.out).mono ?_
      rintro e w1 ⟨rfl, hb⟩
      replace U := Lib.hid (U.out.trans (Upd.of_below hb))
      clear hb
      go_wp2_with (fail)
      have U2 := Lib.hid (U.out.alloc (.cells (askVals [⟨0, 2047, 7⟩, ⟨4, 79871, 0⟩, ⟨4, 79872, 0⟩, ⟨1, 2047, 0⟩]).toArray 25))
      have hA : AsksAt (w1.alloc (.cells (askVals [⟨0, 2047, 7⟩, ⟨4, 79871, 0⟩, ⟨4, 79872, 0⟩, ⟨1, 2047, 0⟩]).toArray 25)) (some ⟨w1.heap.size, 0, none⟩) [⟨0, 2047, 7⟩, ⟨4, 79871, 0⟩, ⟨4, 79872, 0⟩, ⟨1, 2047, 0⟩] := fun _ =>
        ⟨w1.heap.size, 0, rfl, by simp, fun k hk j v hv => by
          rw [cells_of (Go.heap_alloc_last w1 _)]
          have := askVals_at _ k j v hk hv
          simpa using this⟩
      have P1 := Lib.hid (play3_calls 2049 _ _ 4 _ hA hok'.out (by decide) (HT.out.of_upd U2.out (by simp)))
      clear hA
      refine P1.out.mono ?_
      rintro e w2 ⟨rfl, hb⟩
      replace U := Lib.hid (U2.out.trans (Upd.of_below hb))
      clear hb U2 P1
      go_wp2_with (fail)
      refine (P0.out _ _ U.out).mono ?_
      rintro e w3 ⟨rfl, hb⟩
      replace U := Lib.hid (U.out.trans (Upd.of_below hb))
      clear hb
      go_wp2_with (fail)
      refine (K3.out _ U.out).mono ?_
      rintro e w4 ⟨rfl, hb⟩
      replace U := Lib.hid (U.out.trans (Upd.of_below hb))
      clear hb
      go_wp2_with (fail)
      go_ret
      exact ⟨rfl, U.out.below⟩
end Go.Proofs.YtfnemolaoijbhabDoor
