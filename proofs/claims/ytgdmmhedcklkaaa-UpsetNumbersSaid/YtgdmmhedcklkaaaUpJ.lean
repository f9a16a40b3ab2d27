/- The law's 'same': it is always true. -/
import Derived.Test.YtgdmmhedcklkaaaUpI
namespace Go.Proofs.Ytgdmmhedcklkaaa
open Go.RowKit Go.Dio
set_option linter.unusedSimpArgs false
set_option linter.unusedVariables false

set_option maxRecDepth 20000 in
set_option maxHeartbeats 4000000 in
theorem same_calls22 (A : Option Addr) (l : List UpV) (c : Nat) (bits budget cy : Int) (w : World) (h : UpsAt w A l) (hl : l.length ≤ 1048576) :
    Calls Try.prog 11 #[.slice A l.length c, .int .i64 bits, .int .i64 budget, .int .i64 cy] w fun e w' => e = .returned (.bool true) ∧ Upd [] w w' := by
  have HS := Lib.hid (fun wz (u : Upd [] w wz) => sorted_calls A l c wz (h.of_upd u) hl)
  have HT := Lib.hid (fun wz (u : Upd [] w wz) => Sort_calls A l c wz (h.of_upd u) hl)
  have HA := Lib.hid (fun wz (u : Upd [] w wz) => At_calls A l c cy wz (h.of_upd u) hl)
  have HR := Lib.hid (fun wz (u : Upd [] w wz) => Right_calls A l c bits budget wz (h.of_upd u) hl)
  have HP := Lib.hid (fun wz (u : Upd [] w wz) => Spaced_calls A l c wz (h.of_upd u) hl)
  have H := Lib.hid h
  clear h
  have hrd : rightE l bits budget = if 64 < l.length then 3 else if l.any (badU bits budget) = true then 23 else 0 := rfl
  generalize rightE l bits budget = r at HR hrd
  have hsl := srt_len l
  generalize hL : l.length = L at hl hrd hsl HS HT HA HR HP ⊢
  have HSP : Hid (spaced l = spTo (srt l) L) := Lib.hid (by rw [← hL]; rfl)
  have HRD := Lib.hid hrd
  have HL := Lib.hid hL
  have HSL := Lib.hid hsl
  clear hL hrd hsl
  go_enter Try.func11, Try.ntmps11
  go_upto_if 23 with (fail)
  go_cut [9] (fun v9 wc => v9 = .int .i64 r ∧ Hid (Upd [] w wc))
  case first =>
    rcases Nat.lt_or_ge 64 L with h64 | h64
    · have d : decide ((64 : Int) < (L : Int)) = true := decide_eq_true (by omega)
      have e := HRD.out
      rw [if_pos h64] at e
      clear HRD
      subst e
      go_wp2_with (fail)
      go_meet
      case rel => exact ⟨rfl, Lib.hid (Upd.refl _ _)⟩
    · have d : decide ((64 : Int) < (L : Int)) = false := decide_eq_false (by omega)
      simp only [d]
      have e := HRD.out
      rw [if_neg (by omega)] at e
      have HE := Lib.hid e
      clear e HRD
      go_wp2_with (fail)
      go_loopg [9, 26] L (fun g v9 v26 wl => ∃ k : Nat, v26 = .int .i64 (k : Int) ∧ k ≤ L ∧ g = L - k ∧ v9 = .int .i64 (if (l.take k).any (badU bits budget) = true then 23 else 0) ∧ Hid (Upd [] w wl))
      case atStart => exact ⟨0, rfl, by omega, rfl, rfl, Lib.hid (Upd.refl _ _)⟩
      case round =>
        obtain ⟨k, rfl, hk, hg, rfl, U⟩ := hrel
        rcases Nat.lt_or_ge k L with hlt | hge
        · have dk : decide ((k : Int) < (L : Int)) = true := decide_eq_true (by omega)
          obtain ⟨b, o, rfl, hb, hc⟩ := (H.out.of_upd U.out) (by rw [HL.out]; omega)
          obtain ⟨c1, c2⟩ := hc k (by rw [HL.out]; exact hlt)
          have hkl : k < l.length := by rw [HL.out]; exact hlt
          have ha := any_take (badU bits budget) l k hkl
          generalize l[k] = x at c1 c2 ha
          obtain ⟨x1, x2⟩ := x
          simp only at c1 c2
          have HAA := Lib.hid ha
          clear hc ha
          generalize (l.take k).any (badU bits budget) = p at HAA ⊢
          generalize hpp : (if p = true then (23 : Int) else 0) = pp
          have HPP := Lib.hid hpp
          clear hpp
          by_cases q1 : x1 < 0
          · have d1 : decide (x1 < 0) = true := decide_eq_true q1
            have hn : badU bits budget (x1, x2) = true := by simp [badU, *]
            have HN := Lib.hid hn
            clear hn
            go_wp2_with (fail)
            go_roundg (L - (k + 1))
            case measure => omega
            case rel => exact ⟨k + 1, by go_num, by omega, rfl, by rw [HAA.out, HN.out, Bool.or_true]; rfl, Lib.hid (U.out.alloc _)⟩
          · have d1 : decide (x1 < 0) = false := decide_eq_false q1
            by_cases q2 : budget ≤ x1
            · have d2 : decide (budget ≤ x1) = true := decide_eq_true q2
              have hn : badU bits budget (x1, x2) = true := by simp [badU, *]
              have HN := Lib.hid hn
              clear hn
              go_wp2_with (fail)
              go_roundg (L - (k + 1))
              case measure => omega
              case rel => exact ⟨k + 1, by go_num, by omega, rfl, by rw [HAA.out, HN.out, Bool.or_true]; rfl, Lib.hid (U.out.alloc _)⟩
            · have d2 : decide (budget ≤ x1) = false := decide_eq_false q2
              by_cases q3 : x2 < 0
              · have d3 : decide (x2 < 0) = true := decide_eq_true q3
                have hn : badU bits budget (x1, x2) = true := by simp [badU, *]
                have HN := Lib.hid hn
                clear hn
                go_wp2_with (fail)
                go_roundg (L - (k + 1))
                case measure => omega
                case rel => exact ⟨k + 1, by go_num, by omega, rfl, by rw [HAA.out, HN.out, Bool.or_true]; rfl, Lib.hid (U.out.alloc _)⟩
              · have d3 : decide (x2 < 0) = false := decide_eq_false q3
                by_cases q4 : bits ≤ x2
                · have d4 : decide (bits ≤ x2) = true := decide_eq_true q4
                  have hn : badU bits budget (x1, x2) = true := by simp [badU, *]
                  have HN := Lib.hid hn
                  clear hn
                  go_wp2_with (fail)
                  go_roundg (L - (k + 1))
                  case measure => omega
                  case rel => exact ⟨k + 1, by go_num, by omega, rfl, by rw [HAA.out, HN.out, Bool.or_true]; rfl, Lib.hid (U.out.alloc _)⟩
                · have d4 : decide (bits ≤ x2) = false := decide_eq_false q4
                  have hn : badU bits budget (x1, x2) = false := by simp only [badU, d1, d2, d3, d4]; rfl
                  have HN := Lib.hid hn
                  clear hn q1 q2 q3 q4
                  go_wp2_with (fail)
                  go_roundg (L - (k + 1))
                  case measure => omega
                  case rel => exact ⟨k + 1, by go_num, by omega, rfl, by rw [HAA.out, HN.out, Bool.or_false, HPP.out], Lib.hid (U.out.alloc _)⟩
        · obtain rfl : k = L := by omega
          have e2 : (if (l.take k).any (badU bits budget) = true then (23 : Int) else 0) = r := by rw [HE.out, ← HL.out, List.take_length]
          rw [e2]
          clear e2
          go_wp2_with (fail)
          go_meet
          case rel => exact ⟨rfl, U⟩
  case rest =>
    obtain ⟨rfl, U⟩ := hcut
    clear H HRD
    go_wp2_with (fail)
    refine (HS.out _ U.out).mono ?_
    rintro e w1 ⟨B, cap, rfl, u1, h1, h2, h3⟩
    have U1 := Lib.hid (U.out.trans u1)
    have H3 := Lib.hid h3
    clear u1 h3 U HS
    generalize srt l = s at H3 HSL HSP HT HA
    go_wp2_with (fail)
    go_loopg [13, 14, 55] L (fun g v13 v14 v55 wl => ∃ k : Nat, ∃ u14 : Value, u14 = v14 ∧ v55 = .int .i64 (k : Int) ∧ k ≤ L ∧ g = L - k ∧ v13 = .bool (spTo s k) ∧ Hid (wl.ownsRow w1.heap.size 3 1 u14 (ats cy (s.take k)).length (iVals (ats cy (s.take k)))) ∧ Hid (Upd [] w1 wl))
    case atStart => exact ⟨0, _, rfl, rfl, by omega, rfl, rfl, Lib.hid ⟨rfl, .inl ⟨rfl, rfl⟩⟩, Lib.hid (Upd.refl _ _)⟩
    case round =>
      obtain ⟨k, u14, rfl, rfl, hk, hg, rfl, HO, U⟩ := hrel
      rcases Nat.lt_or_ge k L with hlt | hge
      · have dk : decide ((k : Int) < (L : Int)) = true := decide_eq_true (by omega)
        have hsk : spTo s (k + 1) = (spTo s k && !nearAt s k) := rfl
        obtain ⟨b, o, rfl, hb, hc⟩ := (H3.out.of_upd U.out) (by rw [HSL.out]; omega)
        have hks : k < s.length := by rw [HSL.out]; exact hlt
        obtain ⟨c1, c2⟩ := hc k hks
        have hsn := ats_snoc cy (s.take k) s[k]
        rw [← List.take_succ_eq_append_getElem hks] at hsn
        have hln := ats_len cy (s.take k)
        rw [List.length_take] at hln
        have hnr : ∀ m, k = m + 1 → ∃ y, (∀ z : World, Upd [] wr z → z.cell? ⟨b, o + m * 2, none⟩ = some (.int .i64 y)) ∧ nearAt s k = tooNear s[k].1 y := fun m hm => by
          subst hm
          refine ⟨s[m].1, fun z u => ?_, ?_⟩
          · rw [← (hc m (by omega)).1]; exact World.cell?_of_block (u.block b hb (by simp))
          · unfold nearAt
            rw [getD_nth s (m + 1) hks, show m + 1 - 1 = m from rfl, getD_nth s m (by omega)]
            simp
        have hz : k = 0 → nearAt s k = false := fun h => by subst h; rfl
        generalize s[k] = x at c1 c2 hsn hnr
        obtain ⟨x1, x2⟩ := x
        simp only at c1 c2 hsn hnr
        have HSN := Lib.hid hsn
        have HSK := Lib.hid hsk
        have HNR := Lib.hid hnr
        have HZ := Lib.hid hz
        clear hc hsn hsk hnr hz
        generalize ats cy (s.take k) = a at HO HSN hln
        generalize spTo s k = q13 at HSK ⊢
        have HSK2 := Lib.hid HSK.out
        have hb1 := U.out.size
        go_upto_region 16 with (fail)
        have HB := Lib.hid (Go.heap_alloc_last wr (.cells #[.int .i64 x1, .int .i64 x2] 37))
        have HOW := Lib.hid (HO.out.alloc (.cells #[.int .i64 x1, .int .i64 x2] 37))
        have UW := Lib.hid (U.out.alloc (.cells #[.int .i64 x1, .int .i64 x2] 37))
        have UR := Lib.hid ((Upd.refl [] wr).alloc (.cells #[.int .i64 x1, .int .i64 x2] 37))
        generalize wr.alloc (.cells #[.int .i64 x1, .int .i64 x2] 37) = W at HB HOW UW UR ⊢
        generalize hbx : wr.heap.size = bx at HB hb hb1 ⊢
        clear hbx HO c1 c2
        have n1 : ∀ z : Near [] W, z.1.cell? ⟨bx, 0, none⟩ = some (.int .i64 x1) := fun z => by rw [cells_of (z.2.keep HB.out (by simp))]; rfl
        have g1 : W.cell? ⟨bx, 0, none⟩ = some (.int .i64 x1) := by rw [cells_of HB.out]; rfl
        have g2 : W.cell? ⟨bx, 1, none⟩ = some (.int .i64 x2) := by rw [cells_of HB.out]; rfl
        rcases Nat.eq_zero_or_pos k with rfl | h0
        · have hnf := HZ.out rfl
          have e13 := HSK2.out
          rw [hnf, Bool.not_false, Bool.and_true] at e13
          have E13 := Lib.hid e13
          clear e13 hnf
          by_cases q : x1 = cy
          · have dq : (x1 == cy) = true := beq_iff_eq.2 q
            have HSN2 := HSN.out
            rw [if_pos q] at HSN2
            have HSN3 := Lib.hid HSN2
            clear HSN HSN2 q
            refine wp_region_plan (fun z => ∃ x : Near [] W, z = x.1) [] [0, 1, 2, 3, 4, 5, 6, 7, 8, 9, 10, 11, 12, 13, 14, 15] (by kernel_rfl) (by kernel_rfl) (by kernel_rfl) (by kernel_rfl) (fun _ d _ _ _ h => by cases d <;> exact h) ⟨⟨(W).drew, (Upd.refl _ _).drew⟩, rfl⟩ ?_
            refine plan_last ?_
            simp only [opsAt, List.map_cons, List.map_nil, List.getElem?_toArray, List.getElem?_cons_zero, List.getElem?_cons_succ, Option.getD_some]
            repeat (go_big_quiet_step (fail))
            refine wpQuiet_nil ?_
            unfold planEnd
            go_wp2_with ((at_builtin; refine L_append _ (.tmp 80) (.tmp 83) 39 rfl (by kernel_rfl) w1.heap.size 3 _ 1 8 Try.underlying39 info_i64 rfl (by omega) u14 a.length (iVals a) rfl (HOW.out.alloc _) (some ⟨W.heap.size, 0, none⟩) 1 1 (iVals [x2]) rfl rfl (fun _ => ⟨_, 0, rfl, row_range (show (W.alloc (.cells #[.int .i64 x2] 3)).heap[W.heap.size]? = _ from Go.heap_alloc_last W (.cells #[.int .i64 x2] 3))⟩) (iVals_one _) (by simp only [maxLen]; omega) (by omega) (UW.out.alloc _).size ?_))
            intro v' w' own g9 at9
            have UA := Lib.hid (((UW.out.alloc (.cells #[.int .i64 x2] 3)).drew).grown g9 (fun g hg hlt => by
              have := ((HOW.out.alloc (.cells #[.int .i64 x2] 3)).lt g hg).1
              omega))
            have hv : iVals a ++ iVals [x2] = iVals (a ++ [x2]) := by simp [iVals]
            rw [hv] at own
            have OWN : Hid (w'.ownsRow w1.heap.size 3 1 v' (a ++ [x2]).length (iVals (a ++ [x2]))) := Lib.hid (by rw [List.length_append]; exact own)
            clear own g9 at9 hv
            go_wp2_with (fail)
            go_roundg (L - (0 + 1))
            case measure => omega
            case rel => exact ⟨0 + 1, _, rfl, by go_num, by omega, rfl, by rw [E13.out], Lib.hid (by rw [HSN3.out]; exact OWN.out), UA⟩
          · have dq : (x1 == cy) = false := by rw [← Bool.not_eq_true, beq_iff_eq]; exact q
            have HSN2 := HSN.out
            rw [if_neg q, List.append_nil] at HSN2
            have HS3 := Lib.hid HSN2
            clear HSN HSN2 q
            refine wp_region_plan (fun z => ∃ x : Near [] W, z = x.1) [] [0, 1, 2, 3, 4, 5, 6, 7, 8, 9, 10, 11, 12, 13, 14, 15] (by kernel_rfl) (by kernel_rfl) (by kernel_rfl) (by kernel_rfl) (fun _ d _ _ _ h => by cases d <;> exact h) ⟨⟨(W).drew, (Upd.refl _ _).drew⟩, rfl⟩ ?_
            refine plan_last ?_
            simp only [opsAt, List.map_cons, List.map_nil, List.getElem?_toArray, List.getElem?_cons_zero, List.getElem?_cons_succ, Option.getD_some]
            repeat (go_big_quiet_step (fail))
            refine wpQuiet_nil ?_
            unfold planEnd
            go_wp2_with fail
            go_roundg (L - (0 + 1))
            case measure => omega
            case rel => exact ⟨0 + 1, _, rfl, by go_num, by omega, rfl, by rw [E13.out], Lib.hid (by rw [HS3.out]; exact HOW.out), Lib.hid UW.out.drew⟩
        · obtain ⟨m, rfl⟩ : ∃ m, k = m + 1 := ⟨k - 1, by omega⟩
          obtain ⟨y, hy, hny⟩ := HNR.out m rfl
          have n3 : ∀ z : Near [] W, z.1.cell? ⟨b, o + m * 2, none⟩ = some (.int .i64 y) := fun z => hy z.1 (UR.out.trans z.2)
          have dm : decide ((m : Int) + 1 > 0) = true := decide_eq_true (by omega)
          have dm2 : decide ((0 : Int) < (m : Int) + 1) = true := decide_eq_true (by omega)
          have e13 := HSK2.out
          rw [hny] at e13
          clear hy hny HNR HZ HSK HSK2
          by_cases q : IntKind.u64.wrap (IntKind.u64.wrap x1 - IntKind.u64.wrap y) < 8192
          · have dn : decide (IntKind.u64.wrap (IntKind.u64.wrap x1 - IntKind.u64.wrap y) < 8192) = true := decide_eq_true q
            rw [show tooNear x1 y = true from dn, Bool.not_true, Bool.and_false] at e13
            have E13 := Lib.hid e13
            clear e13 q
            by_cases q : x1 = cy
            · have dq : (x1 == cy) = true := beq_iff_eq.2 q
              have HSN2 := HSN.out
              rw [if_pos q] at HSN2
              have HSN3 := Lib.hid HSN2
              clear HSN HSN2 q
              refine wp_region_plan (fun z => ∃ x : Near [] W, z = x.1) [] [0, 1, 2, 3, 4, 5, 6, 7, 8, 9, 10, 11, 12, 13, 14, 15] (by kernel_rfl) (by kernel_rfl) (by kernel_rfl) (by kernel_rfl) (fun _ d _ _ _ h => by cases d <;> exact h) ⟨⟨(W).drew, (Upd.refl _ _).drew⟩, rfl⟩ ?_
              refine plan_last ?_
              simp only [opsAt, List.map_cons, List.map_nil, List.getElem?_toArray, List.getElem?_cons_zero, List.getElem?_cons_succ, Option.getD_some]
              repeat (go_big_quiet_step (fail))
              refine wpQuiet_nil ?_
              unfold planEnd
              go_wp2_with ((at_builtin; refine L_append _ (.tmp 80) (.tmp 83) 39 rfl (by kernel_rfl) w1.heap.size 3 _ 1 8 Try.underlying39 info_i64 rfl (by omega) u14 a.length (iVals a) rfl (HOW.out.alloc _) (some ⟨W.heap.size, 0, none⟩) 1 1 (iVals [x2]) rfl rfl (fun _ => ⟨_, 0, rfl, row_range (show (W.alloc (.cells #[.int .i64 x2] 3)).heap[W.heap.size]? = _ from Go.heap_alloc_last W (.cells #[.int .i64 x2] 3))⟩) (iVals_one _) (by simp only [maxLen]; omega) (by omega) (UW.out.alloc _).size ?_))
              intro v' w' own g9 at9
              have UA := Lib.hid (((UW.out.alloc (.cells #[.int .i64 x2] 3)).drew).grown g9 (fun g hg hlt => by
                have := ((HOW.out.alloc (.cells #[.int .i64 x2] 3)).lt g hg).1
                omega))
              have hv : iVals a ++ iVals [x2] = iVals (a ++ [x2]) := by simp [iVals]
              rw [hv] at own
              have OWN : Hid (w'.ownsRow w1.heap.size 3 1 v' (a ++ [x2]).length (iVals (a ++ [x2]))) := Lib.hid (by rw [List.length_append]; exact own)
              clear own g9 at9 hv
              go_wp2_with (fail)
              go_roundg (L - ((m + 1) + 1))
              case measure => omega
              case rel => exact ⟨(m + 1) + 1, _, rfl, by go_num, by omega, rfl, by rw [E13.out], Lib.hid (by rw [HSN3.out]; exact OWN.out), UA⟩
            · have dq : (x1 == cy) = false := by rw [← Bool.not_eq_true, beq_iff_eq]; exact q
              have HSN2 := HSN.out
              rw [if_neg q, List.append_nil] at HSN2
              have HS3 := Lib.hid HSN2
              clear HSN HSN2 q
              refine wp_region_plan (fun z => ∃ x : Near [] W, z = x.1) [] [0, 1, 2, 3, 4, 5, 6, 7, 8, 9, 10, 11, 12, 13, 14, 15] (by kernel_rfl) (by kernel_rfl) (by kernel_rfl) (by kernel_rfl) (fun _ d _ _ _ h => by cases d <;> exact h) ⟨⟨(W).drew, (Upd.refl _ _).drew⟩, rfl⟩ ?_
              refine plan_last ?_
              simp only [opsAt, List.map_cons, List.map_nil, List.getElem?_toArray, List.getElem?_cons_zero, List.getElem?_cons_succ, Option.getD_some]
              repeat (go_big_quiet_step (fail))
              refine wpQuiet_nil ?_
              unfold planEnd
              go_wp2_with fail
              go_roundg (L - ((m + 1) + 1))
              case measure => omega
              case rel => exact ⟨(m + 1) + 1, _, rfl, by go_num, by omega, rfl, by rw [E13.out], Lib.hid (by rw [HS3.out]; exact HOW.out), Lib.hid UW.out.drew⟩
          · have dn : decide (IntKind.u64.wrap (IntKind.u64.wrap x1 - IntKind.u64.wrap y) < 8192) = false := decide_eq_false q
            rw [show tooNear x1 y = false from dn, Bool.not_false, Bool.and_true] at e13
            have E13 := Lib.hid e13
            clear e13 q
            by_cases q : x1 = cy
            · have dq : (x1 == cy) = true := beq_iff_eq.2 q
              have HSN2 := HSN.out
              rw [if_pos q] at HSN2
              have HSN3 := Lib.hid HSN2
              clear HSN HSN2 q
              refine wp_region_plan (fun z => ∃ x : Near [] W, z = x.1) [] [0, 1, 2, 3, 4, 5, 6, 7, 8, 9, 10, 11, 12, 13, 14, 15] (by kernel_rfl) (by kernel_rfl) (by kernel_rfl) (by kernel_rfl) (fun _ d _ _ _ h => by cases d <;> exact h) ⟨⟨(W).drew, (Upd.refl _ _).drew⟩, rfl⟩ ?_
              refine plan_last ?_
              simp only [opsAt, List.map_cons, List.map_nil, List.getElem?_toArray, List.getElem?_cons_zero, List.getElem?_cons_succ, Option.getD_some]
              repeat (go_big_quiet_step (fail))
              refine wpQuiet_nil ?_
              unfold planEnd
              go_wp2_with ((at_builtin; refine L_append _ (.tmp 80) (.tmp 83) 39 rfl (by kernel_rfl) w1.heap.size 3 _ 1 8 Try.underlying39 info_i64 rfl (by omega) u14 a.length (iVals a) rfl (HOW.out.alloc _) (some ⟨W.heap.size, 0, none⟩) 1 1 (iVals [x2]) rfl rfl (fun _ => ⟨_, 0, rfl, row_range (show (W.alloc (.cells #[.int .i64 x2] 3)).heap[W.heap.size]? = _ from Go.heap_alloc_last W (.cells #[.int .i64 x2] 3))⟩) (iVals_one _) (by simp only [maxLen]; omega) (by omega) (UW.out.alloc _).size ?_))
              intro v' w' own g9 at9
              have UA := Lib.hid (((UW.out.alloc (.cells #[.int .i64 x2] 3)).drew).grown g9 (fun g hg hlt => by
                have := ((HOW.out.alloc (.cells #[.int .i64 x2] 3)).lt g hg).1
                omega))
              have hv : iVals a ++ iVals [x2] = iVals (a ++ [x2]) := by simp [iVals]
              rw [hv] at own
              have OWN : Hid (w'.ownsRow w1.heap.size 3 1 v' (a ++ [x2]).length (iVals (a ++ [x2]))) := Lib.hid (by rw [List.length_append]; exact own)
              clear own g9 at9 hv
              go_wp2_with (fail)
              go_roundg (L - ((m + 1) + 1))
              case measure => omega
              case rel => exact ⟨(m + 1) + 1, _, rfl, by go_num, by omega, rfl, by rw [E13.out], Lib.hid (by rw [HSN3.out]; exact OWN.out), UA⟩
            · have dq : (x1 == cy) = false := by rw [← Bool.not_eq_true, beq_iff_eq]; exact q
              have HSN2 := HSN.out
              rw [if_neg q, List.append_nil] at HSN2
              have HS3 := Lib.hid HSN2
              clear HSN HSN2 q
              refine wp_region_plan (fun z => ∃ x : Near [] W, z = x.1) [] [0, 1, 2, 3, 4, 5, 6, 7, 8, 9, 10, 11, 12, 13, 14, 15] (by kernel_rfl) (by kernel_rfl) (by kernel_rfl) (by kernel_rfl) (fun _ d _ _ _ h => by cases d <;> exact h) ⟨⟨(W).drew, (Upd.refl _ _).drew⟩, rfl⟩ ?_
              refine plan_last ?_
              simp only [opsAt, List.map_cons, List.map_nil, List.getElem?_toArray, List.getElem?_cons_zero, List.getElem?_cons_succ, Option.getD_some]
              repeat (go_big_quiet_step (fail))
              refine wpQuiet_nil ?_
              unfold planEnd
              go_wp2_with fail
              go_roundg (L - ((m + 1) + 1))
              case measure => omega
              case rel => exact ⟨(m + 1) + 1, _, rfl, by go_num, by omega, rfl, by rw [E13.out], Lib.hid (by rw [HS3.out]; exact HOW.out), Lib.hid UW.out.drew⟩
      · obtain rfl : k = L := by omega
        have dk : decide ((k : Int) < (k : Int)) = false := decide_eq_false (by omega)
        have et : s.take k = s := by rw [← HSL.out, List.take_length]
        rw [et] at HO
        obtain ⟨B4, cap4, rfl, hn, hc4, hc42, hI⟩ := ints_of_own HO.out
        have HI4 := Lib.hid hI
        have U2 := Lib.hid (U1.out.trans U.out)
        have H32 := Lib.hid (H3.out.of_upd U.out)
        have hsp := HSP.out
        rw [← hsp]
        clear HO hI hn et H3 U hsp
        have la := ats_len cy s
        rw [HSL.out] at la
        generalize ats cy s = at1 at HI4 HA hc4 la
        generalize hal : at1.length = M at HA hc4 la
        have HM := Lib.hid hal
        generalize spaced l = sp at HP HSP
        clear hal HSP
        go_wp2_with (fail)
        refine (HT.out _ U2.out).mono ?_
        rintro e w3 ⟨B5, cap5, rfl, u3, h5, h6, h7⟩
        have U3 := Lib.hid (U2.out.trans u3)
        have H4 := Lib.hid (H32.out.of_upd u3)
        have HI5 := Lib.hid (HI4.out.of_upd u3)
        have H5 := Lib.hid h7
        clear u3 h7 H32 HI4
        go_wp2_with (fail)
        refine (HA.out _ U3.out).mono ?_
        rintro e w4 ⟨B6, cap6, rfl, h8, h9, h10, u4⟩
        have U4 := Lib.hid (U3.out.trans u4)
        have H6 := Lib.hid (H4.out.of_upd u4)
        have H7 := Lib.hid (H5.out.of_upd u4)
        have HI6 := Lib.hid (HI5.out.of_upd u4)
        have HI7 := Lib.hid h10
        clear u4 h10 H4 H5 HI5 U2 U3 HT HA
        go_wp2_with (fail)
        refine (HR.out _ U4.out).mono ?_
        rintro e w5 ⟨rfl, u5⟩
        have U5 := Lib.hid (U4.out.trans u5)
        go_wp2_with (fail)
        refine (HP.out _ U5.out).mono ?_
        rintro e w6 ⟨rfl, u6⟩
        have U6 := Lib.hid (U5.out.trans u6)
        have J6 := Lib.hid (H6.out.of_upd (u5.trans u6))
        have J7 := Lib.hid (H7.out.of_upd (u5.trans u6))
        have J8 := Lib.hid (HI6.out.of_upd (u5.trans u6))
        have J9 := Lib.hid (HI7.out.of_upd (u5.trans u6))
        clear u5 u6 H6 H7 HI6 HI7 U4 U5 HR HP
        go_wp2_with (fail)
        go_loopg [119] k (fun g v119 wl => ∃ i : Nat, v119 = .int .i64 (i : Int) ∧ i ≤ k ∧ g = k - i ∧ Hid (Upd [] w6 wl))
        case atStart => exact ⟨0, rfl, by omega, rfl, Lib.hid (Upd.refl _ _)⟩
        case round =>
          obtain ⟨i, rfl, hi, hgi, V⟩ := hrel
          rcases Nat.lt_or_ge i k with hlt | hge
          · have di : decide ((i : Int) < (k : Int)) = true := decide_eq_true (by omega)
            obtain ⟨bA, oA, rfl, hbA, hcA⟩ := (J7.out.of_upd V.out) (by rw [HSL.out]; omega)
            obtain ⟨bB, oB, rfl, hbB, hcB⟩ := (J6.out.of_upd V.out) (by rw [HSL.out]; omega)
            obtain ⟨a1, a2⟩ := hcA i (by rw [HSL.out]; exact hlt)
            obtain ⟨b1, b2⟩ := hcB i (by rw [HSL.out]; exact hlt)
            have hks : i < s.length := by rw [HSL.out]; exact hlt
            generalize s[i] = x at a1 a2 b1 b2
            obtain ⟨x1, x2⟩ := x
            simp only at a1 a2 b1 b2
            have n1 : ∀ z : Near [] wr, z.1.cell? ⟨bA, oA + i * 2, none⟩ = some (.int .i64 x1) := fun z => by rw [← a1]; exact World.cell?_of_block (z.2.block bA hbA (by simp))
            have n2 : ∀ z : Near [] wr, z.1.cell? ⟨bA, oA + i * 2 + 1, none⟩ = some (.int .i64 x2) := fun z => by rw [← a2]; exact World.cell?_of_block (z.2.block bA hbA (by simp))
            have n3 : ∀ z : Near [] wr, z.1.cell? ⟨bB, oB + i * 2, none⟩ = some (.int .i64 x1) := fun z => by rw [← b1]; exact World.cell?_of_block (z.2.block bB hbB (by simp))
            have n4 : ∀ z : Near [] wr, z.1.cell? ⟨bB, oB + i * 2 + 1, none⟩ = some (.int .i64 x2) := fun z => by rw [← b2]; exact World.cell?_of_block (z.2.block bB hbB (by simp))
            clear hcA hcB a1 a2 b1 b2
            go_upto_region 27 with (fail)
            refine wp_region_plan (fun z => ∃ x : Near [] wr, z = x.1) [] [0, 1, 2, 3, 4, 5, 6, 7, 8] (by kernel_rfl) (by kernel_rfl) (by kernel_rfl) (by kernel_rfl) (fun _ d _ _ _ h => by cases d <;> exact h) ⟨⟨(wr).drew, (Upd.refl _ _).drew⟩, rfl⟩ ?_
            refine plan_last ?_
            simp only [opsAt, List.map_cons, List.map_nil, List.getElem?_toArray, List.getElem?_cons_zero, List.getElem?_cons_succ, Option.getD_some]
            repeat (go_big_quiet_step (fail))
            refine wpQuiet_nil ?_
            unfold planEnd
            go_wp2_with fail
            go_roundg (k - (i + 1))
            case measure => omega
            case rel => exact ⟨i + 1, by go_num, by omega, rfl, Lib.hid V.out.drew⟩
          · have di : decide ((i : Int) < (k : Int)) = false := decide_eq_false (by omega)
            have V6 := Lib.hid (U6.out.trans V.out)
            have K8 := Lib.hid (J8.out.of_upd V.out)
            have K9 := Lib.hid (J9.out.of_upd V.out)
            clear J6 J7 J8 J9 V U6
            go_wp2_with (fail)
            go_loopg [134] M (fun g v134 wl => ∃ i : Nat, v134 = .int .i64 (i : Int) ∧ i ≤ M ∧ g = M - i ∧ Hid (Upd [] wr wl))
            case atStart => exact ⟨0, rfl, by omega, rfl, Lib.hid (Upd.refl _ _)⟩
            case round =>
              obtain ⟨j, rfl, hj, hgj, V⟩ := hrel
              rcases Nat.lt_or_ge j M with hlt | hge
              · have dj : decide ((j : Int) < (M : Int)) = true := decide_eq_true (by omega)
                obtain ⟨bA, oA, rfl, hbA, hcA⟩ := (K9.out.of_upd V.out) (by rw [HM.out]; omega)
                obtain ⟨bB, oB, rfl, hbB, hcB⟩ := (K8.out.of_upd V.out) (by rw [HM.out]; omega)
                have a1 := hcA j (by rw [HM.out]; exact hlt)
                have b1 := hcB j (by rw [HM.out]; exact hlt)
                have hks : j < at1.length := by rw [HM.out]; exact hlt
                generalize at1[j] = x at a1 b1
                have n1 : ∀ z : Near [] wr, z.1.cell? ⟨bA, oA + j, none⟩ = some (.int .i64 x) := fun z => by rw [← a1]; exact World.cell?_of_block (z.2.block bA hbA (by simp))
                have n3 : ∀ z : Near [] wr, z.1.cell? ⟨bB, oB + j, none⟩ = some (.int .i64 x) := fun z => by rw [← b1]; exact World.cell?_of_block (z.2.block bB hbB (by simp))
                clear hcA hcB a1 b1
                go_upto_region 33 with (fail)
                refine wp_region_plan (fun z => ∃ x : Near [] wr, z = x.1) [] [0, 1, 2, 3, 4, 5, 6, 7, 8] (by kernel_rfl) (by kernel_rfl) (by kernel_rfl) (by kernel_rfl) (fun _ d _ _ _ h => by cases d <;> exact h) ⟨⟨(wr).drew, (Upd.refl _ _).drew⟩, rfl⟩ ?_
                refine plan_last ?_
                simp only [opsAt, List.map_cons, List.map_nil, List.getElem?_toArray, List.getElem?_cons_zero, List.getElem?_cons_succ, Option.getD_some]
                repeat (go_big_quiet_step (fail))
                refine wpQuiet_nil ?_
                unfold planEnd
                go_wp2_with fail
                go_roundg (M - (j + 1))
                case measure => omega
                case rel => exact ⟨j + 1, by go_num, by omega, rfl, Lib.hid V.out.drew⟩
              · have dj : decide ((j : Int) < (M : Int)) = false := decide_eq_false (by omega)
                go_wp2_with (fail)
                go_ret
                exact ⟨rfl, V6.out.trans V.out⟩
end Go.Proofs.Ytgdmmhedcklkaaa
