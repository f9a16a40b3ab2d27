/- Law 13: MemoryNumbers. -/
import Derived.Test.YtfnemolaoijbhacDoorL13w
namespace Go.Proofs.YtfnemolaoijbhacDoor
open Go.RowKit Go.Dio
set_option linter.unusedSimpArgs false
set_option linter.unusedVariables false

theorem wrap64_bd (x : Int) : -9223372036854775808 ≤ RowKit.wrap64 x ∧ RowKit.wrap64 x ≤ 9223372036854775807 := by unfold RowKit.wrap64; omega
theorem tmod_bd (x m : Int) (h : 0 < m) (h2 : m ≤ 1000) : -9223372036854775808 ≤ x.tmod m ∧ x.tmod m ≤ 9223372036854775807 := by
  have h1 := Int.lt_tmod_of_pos x h
  have h2 := Int.tmod_lt_of_pos x h
  omega
set_option maxRecDepth 20000 in
set_option maxHeartbeats 4000000 in
theorem numbers13_walk (w : World) (hT : Tz w) : Calls Tryd.prog 7 #[] w fun e w' => e = .returned (.bool true) ∧ Below w.heap.size w w' := by
  have HT := Lib.hid hT
  clear hT
  go_enter Tryd.func7, Tryd.ntmps7
  go_wp2_with (fail)
  go_loopg [1] 30 (fun g v1 wl => ∃ k : Nat, v1 = .int .i64 (k : Int) ∧ k ≤ 30 ∧ g = 30 - k ∧ Hid (Upd [] w wl))
  case atStart => exact ⟨0, rfl, by omega, rfl, Upd.refl _ _⟩
  case round =>
    obtain ⟨k, rfl, hk, hg, U⟩ := hrel
    rcases Nat.lt_or_ge k 30 with h30 | h30
    · have d30 : decide ((k : Int) < 30) = true := decide_eq_true (by omega)
      go_wp2_with (fail)
      go_loopg [2, 3] 90 (fun g v2 v3 wl => ∃ (i : Nat) (l : List Ask4V), v3 = .int .i64 (i : Int) ∧ i ≤ 90 ∧ g = 90 - i ∧ Hid (Asks4Ok l) ∧ Hid (wl.ownsRow w.heap.size 58 4 v2 i (ask4Vals l)) ∧ Hid (Upd [] w wl))
      case atStart => exact ⟨0, [], rfl, by omega, rfl, Lib.hid Asks4Ok.nil_, ⟨rfl, Or.inl ⟨rfl, rfl⟩⟩, U⟩
      case round =>
        clear U
        obtain ⟨i, l, rfl, hi, hgi, HN, HO, U⟩ := hrel
        rcases Nat.lt_or_ge i 90 with h90 | h90
        · go_upto_region 9 with (fail)
          have hr1 : -7 < (RowKit.wrap64 (RowKit.wrap64 ((i : Int) * i) + k)).tmod 7 ∧ (RowKit.wrap64 (RowKit.wrap64 ((i : Int) * i) + k)).tmod 7 < 7 := ⟨Int.lt_tmod_of_pos _ (by omega), Int.tmod_lt_of_pos _ (by omega)⟩
          have hr2 : -9223372036854775808 ≤ ((i : Int) + k) % 17 ∧ ((i : Int) + k) % 17 ≤ 9223372036854775807 := by omega
          have ea : ((i : Int) * 16843009) = ((i * 16843009 : Nat) : Int) := by simp
          have hav : i * 16843009 < 2 ^ 32 := by omega
          have eb : ((i : Int) * 7 + k) % 6 * 4 = (((i * 7 + k) % 6 * 4 : Nat) : Int) := by omega
          have hau : (i * 7 + k) % 6 * 4 < 2 ^ 32 := by omega
          rw [ea, eb]
          clear ea eb
          generalize i * 16843009 = av at hav ⊢
          generalize (i * 7 + k) % 6 * 4 = au at hau ⊢
          generalize ((i : Int) + k) % 17 = r2 at hr2 ⊢
          generalize (RowKit.wrap64 (RowKit.wrap64 ((i : Int) * i) + k)).tmod 7 = r1 at hr1 ⊢
          have hoq : ∀ g, u2.ownBlock = some g → g ≠ wr.heap.size := fun g hg => by have := (HO.out.lt g hg).2; omega
          have HOW := Lib.hid (own_upd HO.out ((Upd.refl [] wr).alloc (.cells #[.int .i64 r1, .int .i64 r2, .int .u32 (au : Int), .int .u32 (av : Int)] 58)) (by simp))
          have UW := Lib.hid (U.out.alloc (.cells #[.int .i64 r1, .int .i64 r2, .int .u32 (au : Int), .int .u32 (av : Int)] 58))
          have hqq := Go.heap_alloc_last wr (.cells #[.int .i64 r1, .int .i64 r2, .int .u32 (au : Int), .int .u32 (av : Int)] 58)
          have hqw : w.heap.size ≤ wr.heap.size := U.out.size
          generalize wr.alloc (.cells #[.int .i64 r1, .int .i64 r2, .int .u32 (au : Int), .int .u32 (av : Int)] 58) = W at HOW UW hqq ⊢
          generalize wr.heap.size = q at hqq hoq hqw ⊢
          clear HO U
          have e0 : W.cell? ⟨q, 0, none⟩ = some (.int .i64 r1) := by rw [cells_of hqq]; rfl
          have e1 : W.cell? ⟨q, 1, none⟩ = some (.int .i64 r2) := by rw [cells_of hqq]; rfl
          have e1f : W.frozen? ⟨q, 1, none⟩ = false := free_of hqq 1
          rcases Int.lt_or_le 4 r1 with h4 | h4
          · go_upto_region 11 with (fail)
            have hr4 := tmod_bd (RowKit.wrap64 (RowKit.wrap64 (RowKit.wrap64 ((i : Int) * i) * 13) + k * 7)) 250 (by decide) (by decide)
            generalize (RowKit.wrap64 (RowKit.wrap64 (RowKit.wrap64 ((i : Int) * i) * 13) + k * 7)).tmod 250 = r3 at hr4 ⊢
            have U3 : Upd [q] W (W.setCell ⟨q, 1, none⟩ (.int .i64 r3)) := (Upd.refl [q] W).setCell (p := ⟨q, 1, none⟩) (by simp) _
            have hq3 : (W.setCell ⟨q, 1, none⟩ (.int .i64 r3)).heap[q]? = some (.cells #[.int .i64 r1, .int .i64 r3, .int .u32 (au : Int), .int .u32 (av : Int)] 58 (0, 0)) := by
              rw [heap_setCell_eq hqq]; simp
            generalize W.setCell ⟨q, 1, none⟩ (.int .i64 r3) = W3 at U3 hq3 ⊢
            clear e0 e1 e1f hqq h4
            have c2 : W3.cell? ⟨q, 2, none⟩ = some (.int .u32 (au : Int)) := by rw [cells_of hq3]; rfl
            have f2 : W3.frozen? ⟨q, 2, none⟩ = false := free_of hq3 2
            have hqlt := lt_of_block hq3
            by_cases e11 : i % 11 = 3
            · have h11 : (i : Int) % 11 = 3 := by omega
              rcases (by omega : i % 4 = 0 ∨ i % 4 = 1 ∨ i % 4 = 2 ∨ i % 4 = 3) with e4 | e4 | e4 | e4
              all_goals
                have h4 : (i : Int) % 4 = ((i % 4 : Nat) : Int) := by omega
                rw [e4] at h4
                go_upto_region 13 with (fail)
                generalize hW4 : World.alloc (World.setCell W3 _ _) _ = W4
                have hq4 := (congrArg (fun z : World => z.heap[q]?) hW4).symm.trans (heap_old ((heap_setCell_eq (c := #[.int .i64 r1, .int .i64 r3, .int .u32 (au : Int), .int .u32 (av : Int)]) hq3 2 _)) _)
                have U4 : Upd [q] W W4 := by rw [← hW4]; exact (U3.setCell (p := ⟨q, 2, none⟩) (by simp) _).alloc _
                clear hW4 c2 f2 h11 h4 e4 e11 hq3 U3
                obtain ⟨y, hq5, hy⟩ : ∃ y : Nat, W4.heap[q]? = some (.cells #[.int .i64 r1, .int .i64 r3, .int .u32 (y : Int), .int .u32 (av : Int)] 58 (0, 0)) ∧ y < 2 ^ 32 := by
                  first
                    | exact ⟨1, hq4, by decide⟩
                    | exact ⟨4092, hq4, by decide⟩
                    | exact ⟨4096, hq4, by decide⟩
                    | exact ⟨4294967292, hq4, by decide⟩
                clear hq4
                have hq4 := hq5
                clear hq5
                have HO3 := Lib.hid (own_upd (own_upd HOW.out U4 (fun g hg => by simpa using hoq g hg)) ((Upd.refl [] W4).alloc (.cells #[.int .i64 r1, .int .i64 r3, .int .u32 (y : Int), .int .u32 (av : Int)] 58)) (by simp))
                have UU := Lib.hid ((UW.out.then U4 (fun x hx hlt => by simp at hx; omega)).alloc (.cells #[.int .i64 r1, .int .i64 r3, .int .u32 (y : Int), .int .u32 (av : Int)] 58))
                have t0 : W4.cell? ⟨q, 0, none⟩ = some (.int .i64 r1) := by rw [cells_of hq4]; rfl
                have t1 : W4.cell? ⟨q, 1, none⟩ = some (.int .i64 r3) := by rw [cells_of hq4]; rfl
                have t2 : W4.cell? ⟨q, 2, none⟩ = some (.int .u32 (y : Int)) := by rw [cells_of hq4]; rfl
                have t3 : W4.cell? ⟨q, 3, none⟩ = some (.int .u32 (av : Int)) := by rw [cells_of hq4]; rfl
                have hlow : ∀ g, u2.ownBlock = some g → w.heap.size ≤ g := fun g hg => (HO3.out.lt g hg).1
                clear hq4 U4
                go_wp2_with ((at_builtin; refine L_append _ (.tmp 55) (.tmp 57) 56 rfl (by kernel_rfl) w.heap.size 58 _ 4 24 Tryd.underlying56 info_ask13 rfl (by omega) u2 i (ask4Vals l) rfl HO3.out (some ⟨W4.heap.size, 0, none⟩) 1 1 (Ask4V.cells ⟨r1, r3, y, av⟩) rfl rfl (srcAt_new W4 (Ask4V.cells ⟨r1, r3, y, av⟩) _) (by simp [Ask4V.cells, Value.oneCell']) (by simp only [maxLen]; omega) (by omega) UU.out.size ?_))
                intro v' w' own gr at1
                have HW := Lib.hid own
                have UG := Lib.hid (UU.out.grown gr (fun g hg hlt => by have := hlow g hg; omega))
                clear own gr at1 t0 t1 t2 t3 HO3 UU
                go_wp2_with (fail)
                go_roundg (90 - (i + 1))
                case measure => omega
                case rel => exact ⟨i + 1, l ++ [⟨r1, r3, y, av⟩], by go_num, by omega, rfl, Lib.hid (HN.out.snoc ⟨hy, hav, by simp only; omega, by simp only; omega⟩), Lib.hid (by rw [ask4Vals_snoc]; exact HW.out), UG⟩
            · have h11 : ((i : Int) % 11 == 3) = false := by rw [beq_eq_false_iff_ne]; omega
              go_upto_region 13 with (fail)
              have U4 := U3
              have hq4 := hq3
              have hy := hau
              clear c2 f2 h11 e11 hq3 U3
              generalize W3 = W4 at U4 hq4 ⊢
              generalize au = y at hq4 hy
              have HO3 := Lib.hid (own_upd (own_upd HOW.out U4 (fun g hg => by simpa using hoq g hg)) ((Upd.refl [] W4).alloc (.cells #[.int .i64 r1, .int .i64 r3, .int .u32 (y : Int), .int .u32 (av : Int)] 58)) (by simp))
              have UU := Lib.hid ((UW.out.then U4 (fun x hx hlt => by simp at hx; omega)).alloc (.cells #[.int .i64 r1, .int .i64 r3, .int .u32 (y : Int), .int .u32 (av : Int)] 58))
              have t0 : W4.cell? ⟨q, 0, none⟩ = some (.int .i64 r1) := by rw [cells_of hq4]; rfl
              have t1 : W4.cell? ⟨q, 1, none⟩ = some (.int .i64 r3) := by rw [cells_of hq4]; rfl
              have t2 : W4.cell? ⟨q, 2, none⟩ = some (.int .u32 (y : Int)) := by rw [cells_of hq4]; rfl
              have t3 : W4.cell? ⟨q, 3, none⟩ = some (.int .u32 (av : Int)) := by rw [cells_of hq4]; rfl
              have hlow : ∀ g, u2.ownBlock = some g → w.heap.size ≤ g := fun g hg => (HO3.out.lt g hg).1
              clear hq4 U4
              go_wp2_with ((at_builtin; refine L_append _ (.tmp 55) (.tmp 57) 56 rfl (by kernel_rfl) w.heap.size 58 _ 4 24 Tryd.underlying56 info_ask13 rfl (by omega) u2 i (ask4Vals l) rfl HO3.out (some ⟨W4.heap.size, 0, none⟩) 1 1 (Ask4V.cells ⟨r1, r3, y, av⟩) rfl rfl (srcAt_new W4 (Ask4V.cells ⟨r1, r3, y, av⟩) _) (by simp [Ask4V.cells, Value.oneCell']) (by simp only [maxLen]; omega) (by omega) UU.out.size ?_))
              intro v' w' own gr at1
              have HW := Lib.hid own
              have UG := Lib.hid (UU.out.grown gr (fun g hg hlt => by have := hlow g hg; omega))
              clear own gr at1 t0 t1 t2 t3 HO3 UU
              go_wp2_with (fail)
              go_roundg (90 - (i + 1))
              case measure => omega
              case rel => exact ⟨i + 1, l ++ [⟨r1, r3, y, av⟩], by go_num, by omega, rfl, Lib.hid (HN.out.snoc ⟨hy, hav, by simp only; omega, by simp only; omega⟩), Lib.hid (by rw [ask4Vals_snoc]; exact HW.out), UG⟩
          · go_upto_region 11 with (fail)
            obtain ⟨W3, hW3⟩ : ∃ W3, W3 = W := ⟨_, rfl⟩
            have U3 : Upd [q] W W3 := by rw [hW3]; exact Upd.refl _ _
            have hq3 : W3.heap[q]? = some (.cells #[.int .i64 r1, .int .i64 r2, .int .u32 (au : Int), .int .u32 (av : Int)] 58 (0, 0)) := by rw [hW3]; exact hqq
            rw [← hW3]
            clear e0 e1 e1f hqq hW3 h4
            generalize r2 = r3 at hr2 hq3
            have hr4 := hr2
            have c2 : W3.cell? ⟨q, 2, none⟩ = some (.int .u32 (au : Int)) := by rw [cells_of hq3]; rfl
            have f2 : W3.frozen? ⟨q, 2, none⟩ = false := free_of hq3 2
            have hqlt := lt_of_block hq3
            by_cases e11 : i % 11 = 3
            · have h11 : (i : Int) % 11 = 3 := by omega
              rcases (by omega : i % 4 = 0 ∨ i % 4 = 1 ∨ i % 4 = 2 ∨ i % 4 = 3) with e4 | e4 | e4 | e4
              all_goals
                have h4 : (i : Int) % 4 = ((i % 4 : Nat) : Int) := by omega
                rw [e4] at h4
                go_upto_region 13 with (fail)
                generalize hW4 : World.alloc (World.setCell W3 _ _) _ = W4
                have hq4 := (congrArg (fun z : World => z.heap[q]?) hW4).symm.trans (heap_old ((heap_setCell_eq (c := #[.int .i64 r1, .int .i64 r3, .int .u32 (au : Int), .int .u32 (av : Int)]) hq3 2 _)) _)
                have U4 : Upd [q] W W4 := by rw [← hW4]; exact (U3.setCell (p := ⟨q, 2, none⟩) (by simp) _).alloc _
                clear hW4 c2 f2 h11 h4 e4 e11 hq3 U3
                obtain ⟨y, hq5, hy⟩ : ∃ y : Nat, W4.heap[q]? = some (.cells #[.int .i64 r1, .int .i64 r3, .int .u32 (y : Int), .int .u32 (av : Int)] 58 (0, 0)) ∧ y < 2 ^ 32 := by
                  first
                    | exact ⟨1, hq4, by decide⟩
                    | exact ⟨4092, hq4, by decide⟩
                    | exact ⟨4096, hq4, by decide⟩
                    | exact ⟨4294967292, hq4, by decide⟩
                clear hq4
                have hq4 := hq5
                clear hq5
                have HO3 := Lib.hid (own_upd (own_upd HOW.out U4 (fun g hg => by simpa using hoq g hg)) ((Upd.refl [] W4).alloc (.cells #[.int .i64 r1, .int .i64 r3, .int .u32 (y : Int), .int .u32 (av : Int)] 58)) (by simp))
                have UU := Lib.hid ((UW.out.then U4 (fun x hx hlt => by simp at hx; omega)).alloc (.cells #[.int .i64 r1, .int .i64 r3, .int .u32 (y : Int), .int .u32 (av : Int)] 58))
                have t0 : W4.cell? ⟨q, 0, none⟩ = some (.int .i64 r1) := by rw [cells_of hq4]; rfl
                have t1 : W4.cell? ⟨q, 1, none⟩ = some (.int .i64 r3) := by rw [cells_of hq4]; rfl
                have t2 : W4.cell? ⟨q, 2, none⟩ = some (.int .u32 (y : Int)) := by rw [cells_of hq4]; rfl
                have t3 : W4.cell? ⟨q, 3, none⟩ = some (.int .u32 (av : Int)) := by rw [cells_of hq4]; rfl
                have hlow : ∀ g, u2.ownBlock = some g → w.heap.size ≤ g := fun g hg => (HO3.out.lt g hg).1
                clear hq4 U4
                go_wp2_with ((at_builtin; refine L_append _ (.tmp 55) (.tmp 57) 56 rfl (by kernel_rfl) w.heap.size 58 _ 4 24 Tryd.underlying56 info_ask13 rfl (by omega) u2 i (ask4Vals l) rfl HO3.out (some ⟨W4.heap.size, 0, none⟩) 1 1 (Ask4V.cells ⟨r1, r3, y, av⟩) rfl rfl (srcAt_new W4 (Ask4V.cells ⟨r1, r3, y, av⟩) _) (by simp [Ask4V.cells, Value.oneCell']) (by simp only [maxLen]; omega) (by omega) UU.out.size ?_))
                intro v' w' own gr at1
                have HW := Lib.hid own
                have UG := Lib.hid (UU.out.grown gr (fun g hg hlt => by have := hlow g hg; omega))
                clear own gr at1 t0 t1 t2 t3 HO3 UU
                go_wp2_with (fail)
                go_roundg (90 - (i + 1))
                case measure => omega
                case rel => exact ⟨i + 1, l ++ [⟨r1, r3, y, av⟩], by go_num, by omega, rfl, Lib.hid (HN.out.snoc ⟨hy, hav, by simp only; omega, by simp only; omega⟩), Lib.hid (by rw [ask4Vals_snoc]; exact HW.out), UG⟩
            · have h11 : ((i : Int) % 11 == 3) = false := by rw [beq_eq_false_iff_ne]; omega
              go_upto_region 13 with (fail)
              have U4 := U3
              have hq4 := hq3
              have hy := hau
              clear c2 f2 h11 e11 hq3 U3
              generalize W3 = W4 at U4 hq4 ⊢
              generalize au = y at hq4 hy
              have HO3 := Lib.hid (own_upd (own_upd HOW.out U4 (fun g hg => by simpa using hoq g hg)) ((Upd.refl [] W4).alloc (.cells #[.int .i64 r1, .int .i64 r3, .int .u32 (y : Int), .int .u32 (av : Int)] 58)) (by simp))
              have UU := Lib.hid ((UW.out.then U4 (fun x hx hlt => by simp at hx; omega)).alloc (.cells #[.int .i64 r1, .int .i64 r3, .int .u32 (y : Int), .int .u32 (av : Int)] 58))
              have t0 : W4.cell? ⟨q, 0, none⟩ = some (.int .i64 r1) := by rw [cells_of hq4]; rfl
              have t1 : W4.cell? ⟨q, 1, none⟩ = some (.int .i64 r3) := by rw [cells_of hq4]; rfl
              have t2 : W4.cell? ⟨q, 2, none⟩ = some (.int .u32 (y : Int)) := by rw [cells_of hq4]; rfl
              have t3 : W4.cell? ⟨q, 3, none⟩ = some (.int .u32 (av : Int)) := by rw [cells_of hq4]; rfl
              have hlow : ∀ g, u2.ownBlock = some g → w.heap.size ≤ g := fun g hg => (HO3.out.lt g hg).1
              clear hq4 U4
              go_wp2_with ((at_builtin; refine L_append _ (.tmp 55) (.tmp 57) 56 rfl (by kernel_rfl) w.heap.size 58 _ 4 24 Tryd.underlying56 info_ask13 rfl (by omega) u2 i (ask4Vals l) rfl HO3.out (some ⟨W4.heap.size, 0, none⟩) 1 1 (Ask4V.cells ⟨r1, r3, y, av⟩) rfl rfl (srcAt_new W4 (Ask4V.cells ⟨r1, r3, y, av⟩) _) (by simp [Ask4V.cells, Value.oneCell']) (by simp only [maxLen]; omega) (by omega) UU.out.size ?_))
              intro v' w' own gr at1
              have HW := Lib.hid own
              have UG := Lib.hid (UU.out.grown gr (fun g hg hlt => by have := hlow g hg; omega))
              clear own gr at1 t0 t1 t2 t3 HO3 UU
              go_wp2_with (fail)
              go_roundg (90 - (i + 1))
              case measure => omega
              case rel => exact ⟨i + 1, l ++ [⟨r1, r3, y, av⟩], by go_num, by omega, rfl, Lib.hid (HN.out.snoc ⟨hy, hav, by simp only; omega, by simp only; omega⟩), Lib.hid (by rw [ask4Vals_snoc]; exact HW.out), UG⟩
        · obtain rfl : i = 90 := by omega
          obtain ⟨A', cap', rfl, hkl, hA'⟩ := asks4_of_own HO.out
          have P1 := Lib.hid fun (D : Option Addr) (ns : List Nat) c w1 (u : Upd [] wr w1) (hD : NumsAt w1 .u32 D ns) (hs : ∀ x ∈ ns, x < 2 ^ 32) (hl : ns.length ≤ 9223372036854775807) => play13_calls D ns c A' l cap' w1 hD hs hl (hA'.of_upd u) HN.out (by omega) (HT.out.of_upd (U.out.trans u) (by simp))
          rw [← hkl] at P1 ⊢
          clear hkl
          rcases (by omega : k % 5 = 0 ∨ k % 5 = 1 ∨ k % 5 = 2 ∨ k % 5 = 3 ∨ k % 5 = 4) with e | e | e | e | e
          all_goals
            have hk5 : (k : Int) % 5 = ((k % 5 : Nat) : Int) := by omega
            rw [e] at hk5
            have V0 := Lib.hid ((Upd.refl [] wr).alloc (.cells (nums .u32 [1, 2, 3, 4]) 26))
            have N0 := (numsAt_new wr .u32 [1, 2, 3, 4] 26).take (k % 5)
            rw [e] at N0
            have N0 := Lib.hid N0
            go_wp2_with (fail)
            refine (P1.out _ _ 4 _ V0.out N0.out (by decide) (by decide)).mono ?_
            rintro e w1 ⟨rfl, hb⟩
            replace U := Lib.hid ((U.out.trans V0.out).trans (Upd.of_below hb))
            clear hb V0 N0
            go_wp2_with (fail)
            go_roundg (30 - (k + 1))
            case measure => omega
            case rel => exact ⟨k + 1, by go_num, by omega, rfl, U⟩
    · have PL := Lib.hid fun (D : Option Addr) (ns : List Nat) c (B : Option Addr) asks c2 w1 (u : Upd [] w w1) (hD : NumsAt w1 .u32 D ns) (hs : ∀ x ∈ ns, x < 2 ^ 32) (hl : ns.length ≤ 9223372036854775807) (hB : Asks4At w1 B asks) (hk : Asks4Ok asks) (hc : asks.length ≤ 9223372036854775807) => play13_calls D ns c B asks c2 w1 hD hs hl hB hk hc (HT.out.of_upd u (by simp))
      have K3 := Lib.hid fun w' (u : Upd [] w w') => known13_calls w' (HT.out.of_upd u (by simp))
      obtain ⟨i0, hi, hz0, hz1, hz2⟩ := info_parts info_w32
      have hmk : ∀ (n : Nat) (u : World), n ≤ 2000 → (Instr.makeSlice 43 (.int .i64 (n : Int)) (.int .i64 (n : Int))).run Tryd.prog u =
          .ok (.slice (some ⟨u.heap.size, 0, none⟩) n n) (u.alloc (.cells (nums .u32 (List.replicate n 0)) 26)) := fun n u hn => by
        have h := run_make (P := Tryd.prog) u 43 26 i0 (.int .u32 0) Tryd.underlying43 hi hz0 .i64 .i64 (n : Int) (n : Int) (by omega) (Int.le_refl _) (by rw [hz2]; omega) (by omega)
        rw [Int.toNat_natCast] at h
        rw [← made_w32]
        simpa [hz1, Value.cells] using h
      have m1 : ∀ u : World, (Instr.makeSlice 43 (.int .i64 1024) (.int .i64 1024)).run Tryd.prog u = .ok (.slice (some ⟨u.heap.size, 0, none⟩) 1024 1024) (u.alloc (.cells (nums .u32 (List.replicate 1024 0)) 26)) := fun u => hmk 1024 u (by decide)
      have m2 : ∀ u : World, (Instr.makeSlice 43 (.int .i64 1025) (.int .i64 1025)).run Tryd.prog u = .ok (.slice (some ⟨u.heap.size, 0, none⟩) 1025 1025) (u.alloc (.cells (nums .u32 (List.replicate 1025 0)) 26)) := fun u => hmk 1025 u (by decide)
      obtain ⟨z1, hz1'⟩ : ∃ z1, z1 = List.replicate 1024 0 := ⟨_, rfl⟩
      obtain ⟨z2, hz2'⟩ : ∃ z2, z2 = List.replicate 1025 0 := ⟨_, rfl⟩
      rw [← hz1'] at m1
      rw [← hz2'] at m2
      have Z1 := Lib.hid (show z1.length = 1024 ∧ ∀ x ∈ z1, x < 2 ^ 32 by rw [hz1']; exact ⟨List.length_replicate .., fun x hx => by rw [List.eq_of_mem_replicate hx]; decide⟩)
      have Z2 := Lib.hid (show z2.length = 1025 ∧ ∀ x ∈ z2, x < 2 ^ 32 by rw [hz2']; exact ⟨List.length_replicate .., fun x hx => by rw [List.eq_of_mem_replicate hx]; decide⟩)
      clear hz1' hz2' hmk hi hz0 hz1 hz2
      have hok : Asks4Ok [⟨4, -5, 0, 0⟩, ⟨4, 4611686018427387904, 0, 0⟩, ⟨5, 39936, 0, 0⟩, ⟨5, 39935, 0, 0⟩, ⟨4, 1024, 0, 0⟩] := by
        have := ((((Asks4Ok.nil_.snoc (a := ⟨4, -5, 0, 0⟩) ⟨by decide, by decide, by decide, by decide⟩).snoc (a := ⟨4, 4611686018427387904, 0, 0⟩) ⟨by decide, by decide, by decide, by decide⟩).snoc (a := ⟨5, 39936, 0, 0⟩) ⟨by decide, by decide, by decide, by decide⟩).snoc (a := ⟨5, 39935, 0, 0⟩) ⟨by decide, by decide, by decide, by decide⟩).snoc (a := ⟨4, 1024, 0, 0⟩) ⟨by decide, by decide, by decide, by decide⟩
        exact this
      have Hok := Lib.hid hok
      clear hok
      go_wp2_with (fail)
      have hz : (wr.alloc (.cells (nums .u32 z1) 26)).heap.size = wr.heap.size + 1 := by simp
      have hA : Asks4At ((wr.alloc (.cells (nums .u32 z1) 26)).alloc (.cells (ask4Vals [⟨4, -5, 0, 0⟩, ⟨4, 4611686018427387904, 0, 0⟩, ⟨5, 39936, 0, 0⟩, ⟨5, 39935, 0, 0⟩, ⟨4, 1024, 0, 0⟩]).toArray 58)) (some ⟨wr.heap.size + 1, 0, none⟩) [⟨4, -5, 0, 0⟩, ⟨4, 4611686018427387904, 0, 0⟩, ⟨5, 39936, 0, 0⟩, ⟨5, 39935, 0, 0⟩, ⟨4, 1024, 0, 0⟩] := fun _ =>
        ⟨wr.heap.size + 1, 0, rfl, by simp, fun k hk j v hv => by
          rw [← hz, cells_of (Go.heap_alloc_last _ _)]
          have := ask4Vals_at _ k j v hk hv
          simpa using this⟩
      have U2 := Lib.hid ((U.out.alloc (.cells (nums .u32 z1) 26)).alloc (.cells (ask4Vals [⟨4, -5, 0, 0⟩, ⟨4, 4611686018427387904, 0, 0⟩, ⟨5, 39936, 0, 0⟩, ⟨5, 39935, 0, 0⟩, ⟨4, 1024, 0, 0⟩]).toArray 58))
      have P := PL.out _ z1 1024 _ _ 5 _ U2.out ((numsAt_new wr .u32 z1 26).of_upd ((Upd.refl _ _).alloc _)) Z1.out.2 (by rw [Z1.out.1]; decide) hA Hok.out (by decide)
      rw [Z1.out.1] at P
      replace P := Lib.hid P
      clear hA hz m1
      refine P.out.mono ?_
      rintro e w1 ⟨rfl, hb⟩
      replace U := Lib.hid (U2.out.trans (Upd.of_below hb))
      clear hb U2 P
      go_wp2_with (fail)
      have U2 := Lib.hid (U.out.alloc (.cells (nums .u32 z2) 26))
      have P := PL.out _ z2 1025 none [] 0 _ U2.out (numsAt_new w1 .u32 z2 26) Z2.out.2 (by rw [Z2.out.1]; decide) (fun h => absurd h (by simp)) Asks4Ok.nil_ (by decide)
      rw [Z2.out.1] at P
      replace P := Lib.hid P
      clear m2
      refine P.out.mono ?_
      rintro e w2 ⟨rfl, hb⟩
      replace U := Lib.hid (U2.out.trans (Upd.of_below hb))
      clear hb U2 P
      go_wp2_with (fail)
      refine (K3.out _ U.out).mono ?_
      rintro e w3 ⟨rfl, hb⟩
      replace U := Lib.hid (U.out.trans (Upd.of_below hb))
      clear hb
      go_wp2_with (fail)
      go_ret
      exact ⟨rfl, U.out.below⟩
end Go.Proofs.YtfnemolaoijbhacDoor
