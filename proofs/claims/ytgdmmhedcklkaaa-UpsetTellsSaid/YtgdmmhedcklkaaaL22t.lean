/- UpsetTells: the walk. -/
import Derived.Test.YtgdmmhedcklkaaaUpK
namespace Go.Proofs.Ytgdmmhedcklkaaa
open Go.RowKit Go.Dio
set_option linter.unusedSimpArgs false
set_option linter.unusedVariables false

def cutU (u : UpV) : UpV := (bits .and .i64 u.1 31, bits .and .i64 u.2 7)
set_option maxRecDepth 20000 in
set_option maxHeartbeats 4000000 in
theorem tells22_walk (A : Option Addr) (l : List UpV) (c : Nat) (bt bu cy : Int) (w : World) (h : UpsAt w A l) (hlc : l.length ≤ c) (hc : c ≤ 9223372036854775807) :
    Calls Try.prog 5 #[.slice A l.length c, .int .i64 bt, .int .i64 bu, .int .i64 cy] w fun e w' => e = .returned (.bool true) ∧ Upd [] w w' := by
  have H := Lib.hid h
  clear h
  generalize hL : l.length = L at hlc ⊢
  have HL := Lib.hid hL
  clear hL
  go_enter Try.func5, Try.ntmps5
  go_upto_if 14 with (fail)
  go_cut [0] (fun v0 wc => ∃ n, v0 = .slice A n c ∧ n ≤ 80 ∧ n = (l.take n).length ∧ wc = w)
  case first =>
    rcases Nat.lt_or_ge 80 L with h80 | h80
    · have d : decide ((80 : Int) < (L : Int)) = true := decide_eq_true (by omega)
      simp only [d]
      go_wp2_with (fail)
      go_meet
      case rel => exact ⟨80, rfl, by omega, by rw [List.length_take, HL.out]; omega, rfl⟩
    · have d : decide ((80 : Int) < (L : Int)) = false := decide_eq_false (by omega)
      simp only [d]
      go_wp2_with (fail)
      go_meet
      case rel => exact ⟨L, rfl, by omega, by rw [List.length_take, HL.out]; omega, rfl⟩
  case rest =>
    obtain ⟨n, rfl, hn, hln, rfl⟩ := hcut
    have HT := Lib.hid (H.out.take n)
    generalize l.take n = m at HT hln
    have HN := Lib.hid hln
    clear hln H HL hlc
    go_wp2_with (fail)
    go_loopg [9, 19] n (fun g v9 v19 wl => ∃ k : Nat, ∃ u9 : Value, u9 = v9 ∧ v19 = .int .i64 (k : Int) ∧ k ≤ n ∧ g = n - k ∧ Hid (wl.ownsRow wc.heap.size 37 2 u9 k (upVals ((m.take k).map cutU))) ∧ Hid (Upd [] wc wl))
    case atStart => exact ⟨0, _, rfl, rfl, by omega, rfl, Lib.hid (World.ownsRow_nil _ _ _ _), Lib.hid (Upd.refl _ _)⟩
    case round =>
      obtain ⟨k, u9, rfl, rfl, hk, hg, HO, U⟩ := hrel
      rcases Nat.lt_or_ge k n with hlt | hge
      · have dk : decide ((k : Int) < (n : Int)) = true := decide_eq_true (by omega)
        have hkm : k < m.length := by rw [← HN.out]; exact hlt
        obtain ⟨b, o, rfl, hb, hc2⟩ := (HT.out.of_upd U.out) (by omega)
        obtain ⟨c1, c2⟩ := hc2 k hkm
        have hmp : (m.take (k + 1)).map cutU = (m.take k).map cutU ++ [cutU m[k]] := by
          rw [List.take_succ_eq_append_getElem hkm, List.map_append]; rfl
        have hlm : ((m.take k).map cutU).length = k := by rw [List.length_map, List.length_take]; omega
        generalize m[k] = x at c1 c2 hmp
        obtain ⟨x1, x2⟩ := x
        simp only at c1 c2
        have HMP := Lib.hid hmp
        clear hmp hc2
        generalize (m.take k).map cutU = a at HO HMP hlm
        have hb1 := U.out.size
        go_wp2_with ((at_builtin; refine L_append _ (.tmp 23) (.tmp 31) 35 rfl (by kernel_rfl) wc.heap.size 37 _ 2 16 Try.underlying35 info_up rfl (by omega) u9 k (upVals a) rfl ((HO.out.alloc _).alloc _) (some ⟨wr.heap.size + 1, 0, none⟩) 1 1 (upVals [cutU (x1, x2)]) rfl rfl (fun _ => ⟨_, 0, rfl, row_range (by simpa [upVals, encU, cutU] using Go.heap_alloc_last (wr.alloc _) (.cells #[.int .i64 (bits .and .i64 x1 31), .int .i64 (bits .and .i64 x2 7)] 37))⟩) (upVals_one _) (by simp only [maxLen]; omega) (by omega) (by simp; omega) ?_))
        intro v' w' own g9 at9
        have UA := Lib.hid (((U.out.alloc (.cells #[.int .i64 x1, .int .i64 x2] 37)).alloc (.cells (upVals [cutU (x1, x2)]).toArray 37)).grown g9 (fun g hg hlt => by
          have := (((HO.out.alloc (.cells #[.int .i64 x1, .int .i64 x2] 37)).alloc (.cells (upVals [cutU (x1, x2)]).toArray 37)).lt g hg).1
          omega))
        have OWN : Hid (w'.ownsRow wc.heap.size 37 2 v' (k + 1) (upVals ((m.take (k + 1)).map cutU))) := Lib.hid (by rw [HMP.out, upVals_append]; exact own)
        clear own g9 at9
        go_wp2_with (fail)
        go_roundg (n - (k + 1))
        case measure => omega
        case rel => exact ⟨k + 1, _, rfl, by go_num, by omega, rfl, OWN, UA⟩
      · obtain rfl : k = n := by omega
        have dk : decide ((k : Int) < (k : Int)) = false := decide_eq_false (by omega)
        have hlm : ((m.take k).map cutU).length = k := by rw [List.length_map, List.length_take, ← HN.out]; omega
        obtain ⟨B, cap, rfl, hn9, hcp, hc9, hu, _, _⟩ := ups_of_own HO.out
        have HU := Lib.hid hu
        have HTW := Lib.hid (HT.out.of_upd U.out)
        generalize (m.take k).map cutU = a at HU hlm
        have HLM := Lib.hid hlm
        rw [hlm]
        clear hu hn9 HO HT hcp
        go_wp2_with (fail)
        have sm := same_calls22 A m c bt bu cy wr HTW.out (by rw [← HN.out]; omega)
        rw [← HN.out] at sm
        refine sm.mono ?_
        rintro e w1 ⟨rfl, u1⟩
        have H1 := Lib.hid (HU.out.of_upd u1)
        have U1 := Lib.hid (U.out.trans u1)
        clear u1 HU U sm
        go_wp2_with (fail)
        have sm := fun x y z => same_calls22 B a cap x y z w1 H1.out (by rw [HLM.out]; omega)
        rw [HLM.out] at sm
        refine (sm _ _ _).mono ?_
        rintro e w2 ⟨rfl, u2⟩
        have H2 := Lib.hid (H1.out.of_upd u2)
        have U2 := Lib.hid (U1.out.trans u2)
        clear u2 H1 U1 sm
        go_wp2_with (fail)
        have sm := fun x y z => same_calls22 B a cap x y z w2 H2.out (by rw [HLM.out]; omega)
        rw [HLM.out] at sm
        refine (sm _ _ _).mono ?_
        rintro e w3 ⟨rfl, u3⟩
        have U3 := Lib.hid (U2.out.trans u3)
        clear u3 H2 U2 sm
        go_wp2_with (fail)
        refine (known_calls22 w3).mono ?_
        rintro e w4 ⟨rfl, u4⟩
        go_wp2_with (fail)
        go_ret
        exact ⟨rfl, U3.out.trans u4⟩
end Go.Proofs.Ytgdmmhedcklkaaa
