/- UpsetNumbers: the walk. -/
import Derived.Test.YtgdmmhedcklkaaaUpK
namespace Go.Proofs.Ytgdmmhedcklkaaa
open Go.RowKit Go.Dio
set_option linter.unusedSimpArgs false
set_option linter.unusedVariables false

set_option maxRecDepth 20000 in
set_option maxHeartbeats 4000000 in
theorem numbers22_walk (w : World) : Calls Try.prog 4 #[] w fun e w' => e = .returned (.bool true) ∧ Upd [] w w' := by
  go_enter Try.func4, Try.ntmps4
  go_wp2_with (fail)
  go_loopg [1] 67 (fun g v1 wl => ∃ n : Nat, v1 = .int .i64 (n : Int) ∧ n ≤ 67 ∧ g = 67 - n ∧ Hid (Upd [] w wl))
  case atStart => exact ⟨0, rfl, by omega, rfl, Lib.hid (Upd.refl _ _)⟩
  case round =>
    obtain ⟨n, rfl, hn, hg, U⟩ := hrel
    rcases Nat.lt_or_ge n 67 with hlt | hge
    · have dn : decide ((n : Int) < 67) = true := decide_eq_true (by omega)
      obtain ⟨wo, rfl⟩ : ∃ wo, wo = wr := ⟨_, rfl⟩
      go_wp2_with (fail)
      go_loopg [2, 3] n (fun g v2 v3 wl => ∃ (i : Nat) (a : List UpV) (u2 : Value), u2 = v2 ∧ v3 = .int .i64 (i : Int) ∧ i ≤ n ∧ g = n - i ∧ a.length = i ∧ Hid (wl.ownsRow wo.heap.size 37 2 u2 i (upVals a)) ∧ Hid (Upd [] wo wl))
      case atStart => exact ⟨0, [], _, rfl, rfl, by omega, rfl, rfl, Lib.hid (World.ownsRow_nil _ _ _ _), Lib.hid (Upd.refl _ _)⟩
      case round =>
        obtain ⟨i, a, u2, rfl, rfl, hi, hgi, hl, HO, V⟩ := hrel
        rcases Nat.lt_or_ge i n with hin | hin
        · have di : decide ((i : Int) < (n : Int)) = true := decide_eq_true (by omega)
          have hb1 := V.out.size
          go_wp2_with ((at_builtin; refine L_append _ (.tmp 15) (.tmp 23) 35 rfl (by kernel_rfl) wo.heap.size 37 _ 2 16 Try.underlying35 info_up rfl (by omega) u2 i (upVals a) rfl (HO.out.alloc _) (some ⟨wr.heap.size, 0, none⟩) 1 1 (upVals [((i : Int) * 37 % 50, (i : Int) * 7 % 11)]) rfl rfl (fun _ => ⟨_, 0, rfl, row_range (Go.heap_alloc_last wr (.cells #[.int .i64 ((i : Int) * 37 % 50), .int .i64 ((i : Int) * 7 % 11)] 37))⟩) (upVals_one _) (by simp only [maxLen]; omega) (by omega) (V.out.alloc _).size ?_))
          intro v' w' own g9 at9
          have UA := Lib.hid ((V.out.alloc (.cells (upVals [((i : Int) * 37 % 50, (i : Int) * 7 % 11)]).toArray 37)).grown g9 (fun g hg hlt => by
            have := ((HO.out.alloc (.cells (upVals [((i : Int) * 37 % 50, (i : Int) * 7 % 11)]).toArray 37)).lt g hg).1
            omega))
          have OWN : Hid (w'.ownsRow wo.heap.size 37 2 v' (i + 1) (upVals (a ++ [((i : Int) * 37 % 50, (i : Int) * 7 % 11)]))) := Lib.hid (by rw [upVals_append]; exact own)
          clear own g9 at9
          go_wp2_with (fail)
          go_roundg (n - (i + 1))
          case measure => omega
          case rel => exact ⟨i + 1, _, v', rfl, by go_num, by omega, rfl, by simp [hl], OWN, UA⟩
        · obtain rfl : i = n := by omega
          have di : decide ((i : Int) < (i : Int)) = false := decide_eq_false (by omega)
          obtain ⟨B, cap, rfl, hn9, hcp, hc9, hu, _, _⟩ := ups_of_own HO.out
          have HU := Lib.hid hu
          have SAME := Lib.hid (fun (wz : World) (u : Upd [] wr wz) (x y z : Int) => same_calls22 B a cap x y z wz (hu.of_upd u) (by omega))
          rw [hl] at SAME ⊢
          clear hu hn9 HO hcp HU
          have U1 := Lib.hid (U.out.trans V.out)
          go_wp2_with (fail)
          refine (SAME.out wr (Upd.refl _ _) 11 50 (i : Int)).mono ?_
          rintro e w1 ⟨rfl, u1⟩
          have V1 := Lib.hid u1
          clear u1
          go_wp2_with (fail)
          refine (SAME.out w1 V1.out 10 50 7).mono ?_
          rintro e w2 ⟨rfl, u2⟩
          have V2 := Lib.hid (V1.out.trans u2)
          clear u2
          go_wp2_with (fail)
          refine (SAME.out w2 V2.out 11 49 3).mono ?_
          rintro e w3 ⟨rfl, u3⟩
          have V3 := Lib.hid (V2.out.trans u3)
          clear u3
          go_wp2_with (fail)
          go_roundg (67 - (i + 1))
          case measure => omega
          case rel => exact ⟨i + 1, by go_num, by omega, rfl, Lib.hid (U1.out.trans V3.out)⟩
    · obtain rfl : n = 67 := by omega
      obtain ⟨wo, rfl⟩ : ∃ wo, wo = wr := ⟨_, rfl⟩
      go_wp2_with (fail)
      have hb := Go.heap_alloc_last wo (.cells #[.int .i64 8191, .int .i64 8192, .int .i64 8193, .int .i64 4611686018427387904] 3)
      have u1 : Upd [] wo (wo.alloc (.cells #[.int .i64 8191, .int .i64 8192, .int .i64 8193, .int .i64 4611686018427387904] 3)) := (Upd.refl _ _).alloc _
      generalize wo.alloc (.cells #[.int .i64 8191, .int .i64 8192, .int .i64 8193, .int .i64 4611686018427387904] 3) = W at hb u1 ⊢
      generalize wo.heap.size = bq at hb ⊢
      have HB := Lib.hid hb
      have U1 := Lib.hid (U.out.trans u1)
      clear hb u1 U
      go_loopg [5, 41] 4 (fun g v5 v41 wl => ∃ i : Nat, v41 = .int .i64 (i : Int) ∧ i ≤ 4 ∧ g = 4 - i ∧ Hid (Upd [] W wl))
      case atStart => exact ⟨0, rfl, by omega, rfl, Lib.hid (Upd.refl _ _)⟩
      case round =>
        obtain ⟨i, rfl, hi, hgi, V⟩ := hrel
        rcases Nat.lt_or_ge i 4 with hin | hin
        · have di : decide ((i : Int) < 4) = true := decide_eq_true (by omega)
          obtain ⟨d, hd⟩ : ∃ d : Int, wr.cell? ⟨bq, i, none⟩ = some (.int .i64 d) := by
            rw [cells_of (V.out.keep HB.out (by simp))]
            rcases (by omega : i = 0 ∨ i = 1 ∨ i = 2 ∨ i = 3) with rfl | rfl | rfl | rfl
            · exact ⟨_, rfl⟩
            · exact ⟨_, rfl⟩
            · exact ⟨_, rfl⟩
            · exact ⟨_, rfl⟩
          go_wp2_with (fail)
          have z1 := Go.heap_alloc_last wr (.cells (upVals [(d, 0), (0, 0)]).toArray 37)
          refine (same_calls22 (some ⟨wr.heap.size, 0, none⟩) [(d, 0), (0, 0)] 2 1 4611686018427387904 d _ (upsAt_blk z1) (by simp)).mono ?_
          rintro e w1 ⟨rfl, u1⟩
          have V1 := Lib.hid ((V.out.alloc _).trans u1)
          clear u1 z1
          go_wp2_with (fail)
          have z1 := Go.heap_alloc_last w1 (.cells (upVals [(-9223372036854775808, 0), (d, 0)]).toArray 37)
          refine (same_calls22 (some ⟨w1.heap.size, 0, none⟩) [(-9223372036854775808, 0), (d, 0)] 2 1 9 0 _ (upsAt_blk z1) (by simp)).mono ?_
          rintro e w2 ⟨rfl, u2⟩
          have V2 := Lib.hid ((V1.out.alloc _).trans u2)
          clear u2 z1
          go_wp2_with (fail)
          go_roundg (4 - (i + 1))
          case measure => omega
          case rel => exact ⟨i + 1, by go_num, by omega, rfl, V2⟩
        · obtain rfl : i = 4 := by omega
          go_wp2_with (fail)
          refine (known_calls22 wr).mono ?_
          rintro e w6 ⟨rfl, u6⟩
          go_wp2_with (fail)
          go_ret
          exact ⟨rfl, U1.out.trans (V.out.trans u6)⟩
end Go.Proofs.Ytgdmmhedcklkaaa
