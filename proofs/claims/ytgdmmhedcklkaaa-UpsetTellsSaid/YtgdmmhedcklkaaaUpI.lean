/- The law's own sorting: by insertion. -/
import Derived.Test.YtgdmmhedcklkaaaUpP
import Derived.Test.YtgdmmhedcklkaaaTree
import Derived.Deep.Onto
namespace Go.Proofs.Ytgdmmhedcklkaaa
open Go.RowKit Go.Dio
set_option linter.unusedSimpArgs false
set_option linter.unusedVariables false

set_option maxHeartbeats 2000000 in
theorem sorted_calls (A : Option Addr) (l : List UpV) (c : Nat) (w : World) (h : UpsAt w A l) (hl : l.length ≤ 1048576) :
    Calls Try.prog 21 #[.slice A l.length c] w fun e w' => ∃ B cap, e = .returned (.slice B l.length cap) ∧ Upd [] w w' ∧ l.length ≤ cap ∧ cap ≤ 9223372036854775807 ∧ UpsAt w' B (srt l) := by
  have H := Lib.hid h
  clear h
  generalize hL : l.length = L at hl ⊢
  have HL := Lib.hid hL
  clear hL
  go_enter Try.func21, Try.ntmps21
  go_wp2_with (fail)
  go_loopg [3, 9] L (fun g v3 v9 wl => ∃ k : Nat, ∃ u3 : Value, u3 = v3 ∧ v9 = .int .i64 (k : Int) ∧ k ≤ L ∧ g = L - k ∧ (k = 0 → u3 = .slice none 0 0) ∧ Hid (wl.ownsRow w.heap.size 37 2 u3 k (upVals (srt (l.take k)))) ∧ Hid (Upd [] w wl))
  case atStart => exact ⟨0, _, rfl, rfl, by omega, rfl, fun _ => rfl, Lib.hid (World.ownsRow_nil _ _ _ _), Lib.hid (Upd.refl _ _)⟩
  case round =>
    obtain ⟨k, u3, rfl, rfl, hk, hg, hnil, HO, U⟩ := hrel
    rcases Nat.lt_or_ge k L with hlt | hge
    · have dk : decide ((k : Int) < (L : Int)) = true := decide_eq_true (by omega)
      obtain ⟨b, o, rfl, hb, hc⟩ := (H.out.of_upd U.out) (by rw [HL.out]; omega)
      have hkl : k < l.length := by rw [HL.out]; exact hlt
      obtain ⟨c1, c2⟩ := hc k hkl
      have hsn := srt_snoc (l.take k) l[k]
      rw [← List.take_succ_eq_append_getElem hkl] at hsn
      have hsl := srt_len (l.take k)
      have hss := srt_sorted (l.take k)
      rw [List.length_take, Nat.min_eq_left (by omega)] at hsl
      generalize hx : l[k] = x at c1 c2 hsn
      obtain ⟨x1, x2⟩ := x
      simp only at c1 c2
      generalize srt (l.take k) = out at HO hsn hsl hss
      obtain ⟨B, cap, rfl, hn, hcp, hc2, hu, h0, ha⟩ := ups_of_own HO.out
      have HSN := Lib.hid hsn
      have HSS := Lib.hid hss
      have HU := Lib.hid hu
      have HSL := Lib.hid hsl
      have HA := Lib.hid ha
      have HN := Lib.hid hnil
      rw [hsl] at hcp h0 HN ⊢
      clear hc hx hsn hss hu hsl hn ha hnil
      go_upto_block 2 with (fail)
      have HB := Lib.hid (Go.heap_alloc_last wr (.cells #[.int .i64 x1, .int .i64 x2] 37))
      have HOW := Lib.hid (HO.out.alloc (.cells #[.int .i64 x1, .int .i64 x2] 37))
      have UW := Lib.hid (U.out.alloc (.cells #[.int .i64 x1, .int .i64 x2] 37))
      have HUW := Lib.hid (HU.out.of_upd ((Upd.refl [] wr).alloc (.cells #[.int .i64 x1, .int .i64 x2] 37)))
      have sx := U.out.size
      generalize wr.alloc (.cells #[.int .i64 x1, .int .i64 x2] 37) = W at HB HOW UW HUW ⊢
      generalize wr.heap.size = bx at HB sx ⊢
      clear HO U HU c1 c2
      go_cut [6] (fun v6 wc => ∃ j : Nat, v6 = .int .i64 (j : Int) ∧ j ≤ k ∧ Hid (out.take j ++ (x1, x2) :: out.drop j = insU (x1, x2) out) ∧ Hid (Upd [] W wc))
      case first =>
        go_wp2_with (fail)
        go_loopg [6] k (fun g v6 wl => ∃ j : Nat, v6 = .int .i64 (j : Int) ∧ j ≤ k ∧ g = j ∧ Hid (∀ i y, j ≤ i → out[i]? = some y → ltU (x1, x2) y = true) ∧ Hid (Upd [] W wl))
        case atStart => exact ⟨k, rfl, Nat.le_refl _, rfl, Lib.hid (fun i y hi hy => by rw [List.getElem?_eq_none (by rw [HSL.out]; exact hi)] at hy; cases hy), Lib.hid (Upd.refl _ _)⟩
        case round =>
          obtain ⟨j, rfl, hj, hgj, HT, V⟩ := hrel
          have n1 : ∀ z : Near [] wr, z.1.cell? ⟨bx, 0, none⟩ = some (.int .i64 x1) := fun z => by rw [cells_of ((V.out.trans z.2).keep HB.out (by simp))]; rfl
          have n2 : ∀ z : Near [] wr, z.1.cell? ⟨bx, 1, none⟩ = some (.int .i64 x2) := fun z => by rw [cells_of ((V.out.trans z.2).keep HB.out (by simp))]; rfl
          rcases Nat.eq_zero_or_pos j with rfl | hj0
          · have hins := insU_at (x1, x2) out 0 HSS.out (Nat.zero_le _) HT.out (fun y h0 => absurd h0 (by omega))
            have HI := Lib.hid hins
            clear hins n1 n2
            go_wp2_with (fail)
            refine wp_region_plan (fun z => ∃ x : Near [] wr, z = x.1) [] [0, 1, 2, 3, 4, 5, 6, 7, 8, 9, 10, 11, 12, 13, 14, 15, 16, 17, 18, 19, 20, 21, 22, 23, 24, 25, 26, 27, 28, 29, 30, 31, 32, 33, 34] (by kernel_rfl) (by kernel_rfl) (by kernel_rfl) (by kernel_rfl) (fun _ d _ _ _ h => by cases d <;> exact h) ⟨⟨(wr).drew, (Upd.refl _ _).drew⟩, rfl⟩ ?_
            refine plan_last ?_
            simp only [opsAt, List.map_cons, List.map_nil, List.getElem?_toArray, List.getElem?_cons_zero, List.getElem?_cons_succ, Option.getD_some]
            repeat (go_big_quiet_step (fail))
            refine wpQuiet_nil ?_
            unfold planEnd
            go_wp2_with fail
            go_meet
            case rel => exact ⟨0, by go_num, by omega, HI, Lib.hid V.out.drew⟩
          · obtain ⟨m, rfl⟩ : ∃ m, j = m + 1 := ⟨j - 1, by omega⟩
            have hml : m < out.length := by rw [HSL.out]; omega
            have hne : B ≠ none := fun e => by have := (h0 e).2; omega
            obtain ⟨bo, oo, rfl, hbo, hco⟩ := (HUW.out.of_upd V.out) (by omega)
            obtain ⟨d1, d2⟩ := hco m hml
            have hgm : out[m]? = some out[m] := List.getElem?_eq_getElem hml
            generalize out[m] = y at d1 d2 hgm
            obtain ⟨y1, y2⟩ := y
            simp only at d1 d2
            have n3 : ∀ z : Near [] wr, z.1.cell? ⟨bo, oo + m * 2, none⟩ = some (.int .i64 y1) := fun z => by rw [← d1]; exact World.cell?_of_block (z.2.block bo hbo (by simp))
            have n4 : ∀ z : Near [] wr, z.1.cell? ⟨bo, oo + m * 2 + 1, none⟩ = some (.int .i64 y2) := fun z => by rw [← d2]; exact World.cell?_of_block (z.2.block bo hbo (by simp))
            have dm : decide ((m : Int) + 1 > 0) = true := decide_eq_true (by omega)
            have dm2 : decide ((0 : Int) < (m : Int) + 1) = true := decide_eq_true (by omega)
            have HGM := Lib.hid hgm
            clear d1 d2 hco hgm
            rcases Int.lt_trichotomy x1 y1 with q | q | q
            · have hlt : ltU (x1, x2) (y1, y2) = true := by rw [ltU_iff]; exact .inl q
              have e1 : decide (x1 < y1) = true := decide_eq_true q
              have ht : ∀ i z, m ≤ i → out[i]? = some z → ltU (x1, x2) z = true := fun i z hi hz => by
                rcases Nat.lt_or_ge m i with h1 | h1
                · exact HT.out i z h1 hz
                · obtain rfl : i = m := by omega
                  have : some z = some (y1, y2) := by rw [← hz, ← HGM.out]
                  cases this
                  exact hlt
              have HT2 := Lib.hid ht
              clear ht hlt
              go_wp2_with (fail)
              refine wp_region_plan (fun z => ∃ x : Near [] wr, z = x.1) [] [0, 1, 2, 3, 4, 5, 6, 7, 8, 9, 10, 11, 12, 13, 14, 15, 16, 17, 18, 19, 20, 21, 22, 23, 24, 25, 26, 27, 28, 29, 30, 31, 32, 33, 34] (by kernel_rfl) (by kernel_rfl) (by kernel_rfl) (by kernel_rfl) (fun _ d _ _ _ h => by cases d <;> exact h) ⟨⟨(wr).drew, (Upd.refl _ _).drew⟩, rfl⟩ ?_
              refine plan_last ?_
              simp only [opsAt, List.map_cons, List.map_nil, List.getElem?_toArray, List.getElem?_cons_zero, List.getElem?_cons_succ, Option.getD_some]
              repeat (go_big_quiet_step (fail))
              refine wpQuiet_nil ?_
              unfold planEnd
              go_wp2_with fail
              go_roundg m
              case measure => omega
              case rel => exact ⟨m, by go_num, by omega, rfl, HT2, Lib.hid V.out.drew⟩
            · have e1 : decide (x1 < y1) = false := decide_eq_false (by omega)
              have e2 : (x1 == y1) = true := beq_iff_eq.2 q
              rcases (by omega : x2 < y2 ∨ y2 ≤ x2) with p | p
              · have hlt : ltU (x1, x2) (y1, y2) = true := by rw [ltU_iff]; exact .inr ⟨q, p⟩
                have e3 : decide (x2 < y2) = true := decide_eq_true p
                have ht : ∀ i z, m ≤ i → out[i]? = some z → ltU (x1, x2) z = true := fun i z hi hz => by
                  rcases Nat.lt_or_ge m i with h1 | h1
                  · exact HT.out i z h1 hz
                  · obtain rfl : i = m := by omega
                    have : some z = some (y1, y2) := by rw [← hz, ← HGM.out]
                    cases this
                    exact hlt
                have HT2 := Lib.hid ht
                clear ht hlt
                go_wp2_with (fail)
                refine wp_region_plan (fun z => ∃ x : Near [] wr, z = x.1) [] [0, 1, 2, 3, 4, 5, 6, 7, 8, 9, 10, 11, 12, 13, 14, 15, 16, 17, 18, 19, 20, 21, 22, 23, 24, 25, 26, 27, 28, 29, 30, 31, 32, 33, 34] (by kernel_rfl) (by kernel_rfl) (by kernel_rfl) (by kernel_rfl) (fun _ d _ _ _ h => by cases d <;> exact h) ⟨⟨(wr).drew, (Upd.refl _ _).drew⟩, rfl⟩ ?_
                refine plan_last ?_
                simp only [opsAt, List.map_cons, List.map_nil, List.getElem?_toArray, List.getElem?_cons_zero, List.getElem?_cons_succ, Option.getD_some]
                repeat (go_big_quiet_step (fail))
                refine wpQuiet_nil ?_
                unfold planEnd
                go_wp2_with fail
                go_roundg m
                case measure => omega
                case rel => exact ⟨m, by go_num, by omega, rfl, HT2, Lib.hid V.out.drew⟩
              · have hlt : ltU (x1, x2) (y1, y2) = false := by rw [ltU_not]; exact .inr ⟨q, p⟩
                have e3 : decide (x2 < y2) = false := decide_eq_false (by omega)
                have hins := insU_at (x1, x2) out (m + 1) HSS.out (by omega) HT.out (fun y _ hy => by
                  have : some y = some (y1, y2) := by rw [← hy, ← HGM.out]; rfl
                  cases this
                  exact hlt)
                have HI := Lib.hid hins
                clear hins hlt
                go_wp2_with (fail)
                refine wp_region_plan (fun z => ∃ x : Near [] wr, z = x.1) [] [0, 1, 2, 3, 4, 5, 6, 7, 8, 9, 10, 11, 12, 13, 14, 15, 16, 17, 18, 19, 20, 21, 22, 23, 24, 25, 26, 27, 28, 29, 30, 31, 32, 33, 34] (by kernel_rfl) (by kernel_rfl) (by kernel_rfl) (by kernel_rfl) (fun _ d _ _ _ h => by cases d <;> exact h) ⟨⟨(wr).drew, (Upd.refl _ _).drew⟩, rfl⟩ ?_
                refine plan_last ?_
                simp only [opsAt, List.map_cons, List.map_nil, List.getElem?_toArray, List.getElem?_cons_zero, List.getElem?_cons_succ, Option.getD_some]
                repeat (go_big_quiet_step (fail))
                refine wpQuiet_nil ?_
                unfold planEnd
                go_wp2_with fail
                go_meet
                case rel => exact ⟨(m + 1), by go_num, by omega, HI, Lib.hid V.out.drew⟩
            · have hlt : ltU (x1, x2) (y1, y2) = false := by rw [ltU_not]; exact .inl q
              have e1 : decide (x1 < y1) = false := decide_eq_false (by omega)
              have e2 : (x1 == y1) = false := by rw [← Bool.not_eq_true, beq_iff_eq]; omega
              have hins := insU_at (x1, x2) out (m + 1) HSS.out (by omega) HT.out (fun y _ hy => by
                have : some y = some (y1, y2) := by rw [← hy, ← HGM.out]; rfl
                cases this
                exact hlt)
              have HI := Lib.hid hins
              clear hins hlt
              go_wp2_with (fail)
              refine wp_region_plan (fun z => ∃ x : Near [] wr, z = x.1) [] [0, 1, 2, 3, 4, 5, 6, 7, 8, 9, 10, 11, 12, 13, 14, 15, 16, 17, 18, 19, 20, 21, 22, 23, 24, 25, 26, 27, 28, 29, 30, 31, 32, 33, 34] (by kernel_rfl) (by kernel_rfl) (by kernel_rfl) (by kernel_rfl) (fun _ d _ _ _ h => by cases d <;> exact h) ⟨⟨(wr).drew, (Upd.refl _ _).drew⟩, rfl⟩ ?_
              refine plan_last ?_
              simp only [opsAt, List.map_cons, List.map_nil, List.getElem?_toArray, List.getElem?_cons_zero, List.getElem?_cons_succ, Option.getD_some]
              repeat (go_big_quiet_step (fail))
              refine wpQuiet_nil ?_
              unfold planEnd
              go_wp2_with fail
              go_meet
              case rel => exact ⟨(m + 1), by go_num, by omega, HI, Lib.hid V.out.drew⟩
      case rest =>
        obtain ⟨j, rfl, hj, HI, V⟩ := hcut
        have UU := Lib.hid (UW.out.trans V.out)
        have HX := Lib.hid (V.out.keep HB.out (by simp))
        have HV := Lib.hid (HUW.out.of_upd V.out)
        have n1 : ∀ z : Near [] wc, z.1.cell? ⟨bx, 0, none⟩ = some (.int .i64 x1) := fun z => by rw [cells_of (z.2.keep HX.out (by simp))]; rfl
        have n2 : ∀ z : Near [] wc, z.1.cell? ⟨bx, 1, none⟩ = some (.int .i64 x2) := fun z => by rw [cells_of (z.2.keep HX.out (by simp))]; rfl
        have hws : w.heap.size ≤ wc.heap.size := UU.out.size
        have ljt : (out.take j).length = j := by rw [List.length_take, HSL.out]; omega
        have ljd : (out.drop j).length = k - j := by rw [List.length_drop, HSL.out]
        have hfin : upVals (out.take j) ++ upVals [(x1, x2)] ++ upVals (out.drop j) = upVals (insU (x1, x2) out) := by
          rw [← HI.out, upVals_append, List.append_assoc]; rfl
        have HFIN := Lib.hid hfin
        have hcb : cap ≤ 9223372036854775807 := hc2
        clear hfin HB HOW HUW UW V HSS HX
        cases B with
        | none =>
          obtain ⟨rfl, rfl⟩ := h0 rfl
          obtain rfl : j = 0 := by omega
          have T1 : Hid (∀ z, Upd [] wc z → UpsAt z none (out.take 0)) := Lib.hid (fun z u => upsAt_nil _ _)
          have T2 : Hid (∀ z, Upd [] wc z → UpsAt z none (out.drop 0)) := Lib.hid (fun z u => by rw [show out.drop 0 = [] from List.eq_nil_of_length_eq_zero (by rw [ljd])]; exact upsAt_nil _ _)
          go_wp2_with (fail)
          refine wp_region_tree (fun z => ∃ x : Near [] wc, z = x.1) (.two [1, 2, 3, 5, 8, 9, 10] 0 (.two [] 4 (.one [] 6 (.one [] 7 (.one [] 11 (.done [12])))) 6 (.one [] 4 (.one [] 7 (.one [] 11 (.done [12]))))) 6 (.one [] 0 (.one [] 4 (.one [] 7 (.one [] 11 (.done [12])))))) (by kernel_rfl) (by kernel_rfl) (by decide) (by kernel_rfl) (fun _ d _ _ _ h => by cases d <;> exact h) ⟨⟨(wc).drew, (Upd.refl _ _).drew⟩, rfl⟩ ?_
          refine tree_two ?_
          simp only [opsAt, List.map_cons, List.map_nil, List.getElem?_toArray, List.getElem?_cons_zero, List.getElem?_cons_succ, Option.getD_some]
          repeat (go_big_quiet_step (fail))
          refine wpQuiet_nil ?_
          refine ⟨?_, ?_⟩
          · go_wp2_with fail
            generalize hW : World.drew (World.alloc wc _) = W1
            have u1 : Upd [] wc W1 := by rw [← hW]; exact ((Upd.refl _ _).alloc _).drew
            have s1 : Hid (W1.heap.size = wc.heap.size + 1) := Lib.hid (by rw [← hW]; simp)
            have o1 : W1.ownsRow wc.heap.size 37 2 (.slice (some ⟨wc.heap.size, 0, none⟩) 0 0) 0 (upVals []) := by rw [← hW]; exact World.ownsRow_lit wc #[] 0 (Nat.le_refl _) (by simp [maxLen]) rfl
            clear hW
            refine tree_same ⟨⟨_, u1⟩, rfl⟩ ?_
            refine tree_two ?_
            simp only [opsAt, List.map_cons, List.map_nil, List.getElem?_toArray, List.getElem?_cons_zero, List.getElem?_cons_succ, Option.getD_some]
            repeat (go_big_quiet_step (fail))
            refine wpQuiet_nil ?_
            refine ⟨?_, ?_⟩
            ·
              refine L_append _ (.tmp 52) (.tmp 55) 35 rfl (by kernel_rfl) wc.heap.size 37 _ 2 16 Try.underlying35 info_up rfl (by omega) (.slice (some ⟨wc.heap.size, 0, none⟩) 0 0) 0 (upVals []) rfl o1 _ _ _ (upVals (out.take 0)) rfl (by rw [upVals_len]; first | rfl | omega) (srcAt_ups (T1.out _ u1)) (upVals_one _) (by simp only [maxLen]; omega) (by omega) u1.size ?_
              intro v2 W2 own2 g2 at2
              have u2 : Upd [] wc W2 := u1.grown g2 (fun g hg hlt => by have := (o1.lt g hg).1; omega)
              go_wp2_with fail
              refine tree_same ⟨⟨_, u2⟩, rfl⟩ ?_
              refine tree_one ?_
              simp only [opsAt, List.map_cons, List.map_nil, List.getElem?_toArray, List.getElem?_cons_zero, List.getElem?_cons_succ, Option.getD_some]
              repeat (go_big_quiet_step (fail))
              refine wpQuiet_nil ?_
              go_wp2_with fail
              generalize hW : World.alloc W2 _ = W3
              have u3 : Upd [] wc W3 := by rw [← hW]; exact u2.alloc _
              have hx6 : W3.heap[W2.heap.size]? = some (.cells #[.int .i64 x1, .int .i64 x2] 37 (0, 0)) := by rw [← hW]; exact Go.heap_alloc_last W2 _
              have own3 : W3.ownsRow wc.heap.size 37 2 v2 (0 + 0) (upVals [] ++ upVals (out.take 0)) := by rw [← hW]; exact own2.alloc _
              clear hW own2 g2 at2
              refine tree_same ⟨⟨_, u3⟩, rfl⟩ ?_
              refine tree_one ?_
              simp only [opsAt, List.map_cons, List.map_nil, List.getElem?_toArray, List.getElem?_cons_zero, List.getElem?_cons_succ, Option.getD_some]
              repeat (go_big_quiet_step (fail))
              refine wpQuiet_nil ?_
              refine L_append _ (.tmp 56) (.tmp 58) 35 rfl (by kernel_rfl) wc.heap.size 37 _ 2 16 Try.underlying35 info_up rfl (by omega) v2 (0 + 0) (upVals [] ++ upVals (out.take 0)) rfl own3 _ 1 _ (upVals [(x1, x2)]) rfl (by rw [upVals_len]; first | rfl | omega) (fun _ => ⟨W2.heap.size, 0, rfl, row_range hx6⟩) (upVals_one _) (by simp only [maxLen]; omega) (by omega) u3.size ?_
              intro v7 W7 own7 g7 at7
              have u7 : Upd [] wc W7 := u3.grown g7 (fun g hg hlt => by have := (own3.lt g hg).1; omega)
              go_wp2_with fail
              refine tree_same ⟨⟨_, u7⟩, rfl⟩ ?_
              refine tree_one ?_
              simp only [opsAt, List.map_cons, List.map_nil, List.getElem?_toArray, List.getElem?_cons_zero, List.getElem?_cons_succ, Option.getD_some]
              repeat (go_big_quiet_step (fail))
              refine wpQuiet_nil ?_
              refine L_append _ (.tmp 59) (.tmp 62) 35 rfl (by kernel_rfl) wc.heap.size 37 _ 2 16 Try.underlying35 info_up rfl (by omega) v7 (0 + 0 + 1) (upVals [] ++ upVals (out.take 0) ++ upVals [(x1, x2)]) rfl own7 _ _ _ (upVals (out.drop 0)) rfl (by rw [upVals_len]; first | rfl | omega) (srcAt_ups (T2.out _ u7)) (upVals_one _) (by simp only [maxLen]; omega) (by omega) u7.size ?_
              intro v8 W8 own8 g8 at8
              have u8 : Upd [] wc W8 := u7.grown g8 (fun g hg hlt => by have := (own7.lt g hg).1; omega)
              have ow : Hid (W8.ownsRow w.heap.size 37 2 v8 (0 + 1) (upVals (srt (l.take (0 + 1))))) := Lib.hid (by
                rw [HSN.out, ← HFIN.out]
                have h9 := own8.mono hws
                first
                  | exact h9
                  | (rw [show 0 + 1 = 0 + 0 + 1 + 0 by omega]; exact h9)
                  | (rw [show 0 + 1 = 0 + 0 + 1 + (0 - 0) by omega]; exact h9))
              have ux := Lib.hid (UU.out.trans u8)
              clear own8 g8 at8
              go_wp2_with fail
              refine tree_same ⟨⟨_, u8⟩, rfl⟩ ?_
              refine tree_done ?_
              simp only [opsAt, List.map_cons, List.map_nil, List.getElem?_toArray, List.getElem?_cons_zero, List.getElem?_cons_succ, Option.getD_some]
              repeat (go_big_quiet_step (fail))
              refine wpQuiet_nil ?_
              go_wp2_with fail
              go_roundg (L - (0 + 1))
              case measure => omega
              case rel => exact ⟨0 + 1, v8, rfl, by go_num, by omega, rfl, fun h => absurd h (by omega), ow, ux⟩
            · go_wp2_with fail
              generalize hW : World.alloc W1 _ = W2
              have u2 : Upd [] wc W2 := by rw [← hW]; exact u1.alloc _
              have hx6 : W2.heap[W1.heap.size]? = some (.cells #[.int .i64 x1, .int .i64 x2] 37 (0, 0)) := by rw [← hW]; exact Go.heap_alloc_last W1 _
              have o2 : W2.ownsRow wc.heap.size 37 2 (.slice (some ⟨wc.heap.size, 0, none⟩) 0 0) 0 (upVals []) := by rw [← hW]; exact o1.alloc _
              have hx7 := hx6
              clear hW o1
              refine tree_same ⟨⟨_, u2⟩, rfl⟩ ?_
              refine tree_one ?_
              simp only [opsAt, List.map_cons, List.map_nil, List.getElem?_toArray, List.getElem?_cons_zero, List.getElem?_cons_succ, Option.getD_some]
              repeat (go_big_quiet_step (fail))
              refine wpQuiet_nil ?_
              refine L_append _ (.tmp 52) (.tmp 55) 35 rfl (by kernel_rfl) wc.heap.size 37 _ 2 16 Try.underlying35 info_up rfl (by omega) (.slice (some ⟨wc.heap.size, 0, none⟩) 0 0) 0 (upVals []) rfl o2 _ _ _ (upVals (out.take 0)) rfl (by rw [upVals_len]; first | rfl | omega) (srcAt_ups (T1.out _ u2)) (upVals_one _) (by simp only [maxLen]; omega) (by omega) u2.size ?_
              intro v3 W3 own3 g3 at3
              have u3 : Upd [] wc W3 := u2.grown g3 (fun g hg hlt => by have := (o2.lt g hg).1; omega)
              have hx6 : W3.heap[W1.heap.size]? = some (.cells #[.int .i64 x1, .int .i64 x2] 37 (0, 0)) := by
                rw [g3.block _ (lt_of_block hx7) (fun e => by have := s1.out; simp [Value.ownBlock] at e; omega)]; exact hx7
              clear g3 at3 hx7
              go_wp2_with fail
              refine tree_same ⟨⟨_, u3⟩, rfl⟩ ?_
              refine tree_one ?_
              simp only [opsAt, List.map_cons, List.map_nil, List.getElem?_toArray, List.getElem?_cons_zero, List.getElem?_cons_succ, Option.getD_some]
              repeat (go_big_quiet_step (fail))
              refine wpQuiet_nil ?_
              refine L_append _ (.tmp 56) (.tmp 58) 35 rfl (by kernel_rfl) wc.heap.size 37 _ 2 16 Try.underlying35 info_up rfl (by omega) v3 (0 + 0) (upVals [] ++ upVals (out.take 0)) rfl own3 _ 1 _ (upVals [(x1, x2)]) rfl (by rw [upVals_len]; first | rfl | omega) (fun _ => ⟨W1.heap.size, 0, rfl, row_range hx6⟩) (upVals_one _) (by simp only [maxLen]; omega) (by omega) u3.size ?_
              intro v7 W7 own7 g7 at7
              have u7 : Upd [] wc W7 := u3.grown g7 (fun g hg hlt => by have := (own3.lt g hg).1; omega)
              go_wp2_with fail
              refine tree_same ⟨⟨_, u7⟩, rfl⟩ ?_
              refine tree_one ?_
              simp only [opsAt, List.map_cons, List.map_nil, List.getElem?_toArray, List.getElem?_cons_zero, List.getElem?_cons_succ, Option.getD_some]
              repeat (go_big_quiet_step (fail))
              refine wpQuiet_nil ?_
              refine L_append _ (.tmp 59) (.tmp 62) 35 rfl (by kernel_rfl) wc.heap.size 37 _ 2 16 Try.underlying35 info_up rfl (by omega) v7 (0 + 0 + 1) (upVals [] ++ upVals (out.take 0) ++ upVals [(x1, x2)]) rfl own7 _ _ _ (upVals (out.drop 0)) rfl (by rw [upVals_len]; first | rfl | omega) (srcAt_ups (T2.out _ u7)) (upVals_one _) (by simp only [maxLen]; omega) (by omega) u7.size ?_
              intro v8 W8 own8 g8 at8
              have u8 : Upd [] wc W8 := u7.grown g8 (fun g hg hlt => by have := (own7.lt g hg).1; omega)
              have ow : Hid (W8.ownsRow w.heap.size 37 2 v8 (0 + 1) (upVals (srt (l.take (0 + 1))))) := Lib.hid (by
                rw [HSN.out, ← HFIN.out]
                have h9 := own8.mono hws
                first
                  | exact h9
                  | (rw [show 0 + 1 = 0 + 0 + 1 + 0 by omega]; exact h9)
                  | (rw [show 0 + 1 = 0 + 0 + 1 + (0 - 0) by omega]; exact h9))
              have ux := Lib.hid (UU.out.trans u8)
              clear own8 g8 at8
              go_wp2_with fail
              refine tree_same ⟨⟨_, u8⟩, rfl⟩ ?_
              refine tree_done ?_
              simp only [opsAt, List.map_cons, List.map_nil, List.getElem?_toArray, List.getElem?_cons_zero, List.getElem?_cons_succ, Option.getD_some]
              repeat (go_big_quiet_step (fail))
              refine wpQuiet_nil ?_
              go_wp2_with fail
              go_roundg (L - (0 + 1))
              case measure => omega
              case rel => exact ⟨0 + 1, v8, rfl, by go_num, by omega, rfl, fun h => absurd h (by omega), ow, ux⟩
          · go_wp2_with fail
            generalize hW : World.drew (World.alloc wc _) = W1
            have u1 : Upd [] wc W1 := by rw [← hW]; exact ((Upd.refl _ _).alloc _).drew
            have hx7 : W1.heap[wc.heap.size]? = some (.cells #[.int .i64 x1, .int .i64 x2] 37 (0, 0)) := by rw [← hW]; exact Go.heap_alloc_last wc _
            have s1 : Hid (W1.heap.size = wc.heap.size + 1) := Lib.hid (by rw [← hW]; simp)
            clear hW
            refine tree_same ⟨⟨_, u1⟩, rfl⟩ ?_
            refine tree_one ?_
            simp only [opsAt, List.map_cons, List.map_nil, List.getElem?_toArray, List.getElem?_cons_zero, List.getElem?_cons_succ, Option.getD_some]
            repeat (go_big_quiet_step (fail))
            refine wpQuiet_nil ?_
            go_wp2_with fail
            generalize hW2 : World.alloc W1 _ = W2
            have u2 : Upd [] wc W2 := by rw [← hW2]; exact u1.alloc _
            have o2 : W2.ownsRow wc.heap.size 37 2 (.slice (some ⟨W1.heap.size, 0, none⟩) 0 0) 0 (upVals []) := by rw [← hW2]; exact World.ownsRow_lit W1 #[] 0 u1.size (by simp [maxLen]) rfl
            have hx8 : W2.heap[wc.heap.size]? = some (.cells #[.int .i64 x1, .int .i64 x2] 37 (0, 0)) := by rw [← hW2]; exact heap_old hx7 _
            clear hW2
            refine tree_same ⟨⟨_, u2⟩, rfl⟩ ?_
            refine tree_one ?_
            simp only [opsAt, List.map_cons, List.map_nil, List.getElem?_toArray, List.getElem?_cons_zero, List.getElem?_cons_succ, Option.getD_some]
            repeat (go_big_quiet_step (fail))
            refine wpQuiet_nil ?_
            refine L_append _ (.tmp 52) (.tmp 55) 35 rfl (by kernel_rfl) wc.heap.size 37 _ 2 16 Try.underlying35 info_up rfl (by omega) (.slice (some ⟨W1.heap.size, 0, none⟩) 0 0) 0 (upVals []) rfl o2 _ _ _ (upVals (out.take 0)) rfl (by rw [upVals_len]; first | rfl | omega) (srcAt_ups (T1.out _ u2)) (upVals_one _) (by simp only [maxLen]; omega) (by omega) u2.size ?_
            intro v3 W3 own3 g3 at3
            have u3 : Upd [] wc W3 := u2.grown g3 (fun g hg hlt => by have := (o2.lt g hg).1; omega)
            have hx6 : W3.heap[wc.heap.size]? = some (.cells #[.int .i64 x1, .int .i64 x2] 37 (0, 0)) := by
              rw [g3.block _ (lt_of_block hx8) (fun e => by have := s1.out; simp [Value.ownBlock] at e; omega)]; exact hx8
            clear g3 at3 hx7 hx8
            go_wp2_with fail
            refine tree_same ⟨⟨_, u3⟩, rfl⟩ ?_
            refine tree_one ?_
            simp only [opsAt, List.map_cons, List.map_nil, List.getElem?_toArray, List.getElem?_cons_zero, List.getElem?_cons_succ, Option.getD_some]
            repeat (go_big_quiet_step (fail))
            refine wpQuiet_nil ?_
            refine L_append _ (.tmp 56) (.tmp 58) 35 rfl (by kernel_rfl) wc.heap.size 37 _ 2 16 Try.underlying35 info_up rfl (by omega) v3 (0 + 0) (upVals [] ++ upVals (out.take 0)) rfl own3 _ 1 _ (upVals [(x1, x2)]) rfl (by rw [upVals_len]; first | rfl | omega) (fun _ => ⟨wc.heap.size, 0, rfl, row_range hx6⟩) (upVals_one _) (by simp only [maxLen]; omega) (by omega) u3.size ?_
            intro v7 W7 own7 g7 at7
            have u7 : Upd [] wc W7 := u3.grown g7 (fun g hg hlt => by have := (own3.lt g hg).1; omega)
            go_wp2_with fail
            refine tree_same ⟨⟨_, u7⟩, rfl⟩ ?_
            refine tree_one ?_
            simp only [opsAt, List.map_cons, List.map_nil, List.getElem?_toArray, List.getElem?_cons_zero, List.getElem?_cons_succ, Option.getD_some]
            repeat (go_big_quiet_step (fail))
            refine wpQuiet_nil ?_
            refine L_append _ (.tmp 59) (.tmp 62) 35 rfl (by kernel_rfl) wc.heap.size 37 _ 2 16 Try.underlying35 info_up rfl (by omega) v7 (0 + 0 + 1) (upVals [] ++ upVals (out.take 0) ++ upVals [(x1, x2)]) rfl own7 _ _ _ (upVals (out.drop 0)) rfl (by rw [upVals_len]; first | rfl | omega) (srcAt_ups (T2.out _ u7)) (upVals_one _) (by simp only [maxLen]; omega) (by omega) u7.size ?_
            intro v8 W8 own8 g8 at8
            have u8 : Upd [] wc W8 := u7.grown g8 (fun g hg hlt => by have := (own7.lt g hg).1; omega)
            have ow : Hid (W8.ownsRow w.heap.size 37 2 v8 (0 + 1) (upVals (srt (l.take (0 + 1))))) := Lib.hid (by
              rw [HSN.out, ← HFIN.out]
              have h9 := own8.mono hws
              first
                | exact h9
                | (rw [show 0 + 1 = 0 + 0 + 1 + 0 by omega]; exact h9)
                | (rw [show 0 + 1 = 0 + 0 + 1 + (0 - 0) by omega]; exact h9))
            have ux := Lib.hid (UU.out.trans u8)
            clear own8 g8 at8
            go_wp2_with fail
            refine tree_same ⟨⟨_, u8⟩, rfl⟩ ?_
            refine tree_done ?_
            simp only [opsAt, List.map_cons, List.map_nil, List.getElem?_toArray, List.getElem?_cons_zero, List.getElem?_cons_succ, Option.getD_some]
            repeat (go_big_quiet_step (fail))
            refine wpQuiet_nil ?_
            go_wp2_with fail
            go_roundg (L - (0 + 1))
            case measure => omega
            case rel => exact ⟨0 + 1, v8, rfl, by go_num, by omega, rfl, fun h => absurd h (by omega), ow, ux⟩
        | some a =>
          obtain ⟨gb, _, rfl, _, _⟩ := HA.out a rfl
          by_cases hcj : cap = j
          · have hjk : j = k := by omega
            subst hjk
            subst hcj
            have T1 : Hid (∀ z, Upd [] wc z → UpsAt z (some ⟨gb, 0, none⟩) (out.take cap)) := Lib.hid (fun z u => (HV.out.of_upd u).take cap)
            have T2 : Hid (∀ z, Upd [] wc z → UpsAt z (some ⟨gb, 0, none⟩) (out.drop cap)) := Lib.hid (fun z u => by rw [show out.drop cap = [] from List.eq_nil_of_length_eq_zero (by rw [ljd, Nat.sub_self])]; exact upsAt_nil _ _)
            go_wp2_with (fail)
            refine wp_region_tree (fun z => ∃ x : Near [] wc, z = x.1) (.two [1, 2, 3, 5, 8, 9, 10] 0 (.two [] 4 (.one [] 6 (.one [] 7 (.one [] 11 (.done [12])))) 6 (.one [] 4 (.one [] 7 (.one [] 11 (.done [12]))))) 6 (.one [] 0 (.one [] 4 (.one [] 7 (.one [] 11 (.done [12])))))) (by kernel_rfl) (by kernel_rfl) (by decide) (by kernel_rfl) (fun _ d _ _ _ h => by cases d <;> exact h) ⟨⟨(wc).drew, (Upd.refl _ _).drew⟩, rfl⟩ ?_
            refine tree_two ?_
            simp only [opsAt, List.map_cons, List.map_nil, List.getElem?_toArray, List.getElem?_cons_zero, List.getElem?_cons_succ, Option.getD_some]
            repeat (go_big_quiet_step (fail))
            refine wpQuiet_nil ?_
            refine ⟨?_, ?_⟩
            · go_wp2_with fail
              generalize hW : World.drew (World.alloc wc _) = W1
              have u1 : Upd [] wc W1 := by rw [← hW]; exact ((Upd.refl _ _).alloc _).drew
              have s1 : Hid (W1.heap.size = wc.heap.size + 1) := Lib.hid (by rw [← hW]; simp)
              have o1 : W1.ownsRow wc.heap.size 37 2 (.slice (some ⟨wc.heap.size, 0, none⟩) 0 0) 0 (upVals []) := by rw [← hW]; exact World.ownsRow_lit wc #[] 0 (Nat.le_refl _) (by simp [maxLen]) rfl
              clear hW
              refine tree_same ⟨⟨_, u1⟩, rfl⟩ ?_
              refine tree_two ?_
              simp only [opsAt, List.map_cons, List.map_nil, List.getElem?_toArray, List.getElem?_cons_zero, List.getElem?_cons_succ, Option.getD_some]
              repeat (go_big_quiet_step (fail))
              refine wpQuiet_nil ?_
              refine ⟨?_, ?_⟩
              ·
                refine L_append _ (.tmp 52) (.tmp 55) 35 rfl (by kernel_rfl) wc.heap.size 37 _ 2 16 Try.underlying35 info_up rfl (by omega) (.slice (some ⟨wc.heap.size, 0, none⟩) 0 0) 0 (upVals []) rfl o1 _ _ _ (upVals (out.take cap)) rfl (by rw [upVals_len]; first | rfl | omega) (srcAt_ups (T1.out _ u1)) (upVals_one _) (by simp only [maxLen]; omega) (by omega) u1.size ?_
                intro v2 W2 own2 g2 at2
                have u2 : Upd [] wc W2 := u1.grown g2 (fun g hg hlt => by have := (o1.lt g hg).1; omega)
                go_wp2_with fail
                refine tree_same ⟨⟨_, u2⟩, rfl⟩ ?_
                refine tree_one ?_
                simp only [opsAt, List.map_cons, List.map_nil, List.getElem?_toArray, List.getElem?_cons_zero, List.getElem?_cons_succ, Option.getD_some]
                repeat (go_big_quiet_step (fail))
                refine wpQuiet_nil ?_
                go_wp2_with fail
                generalize hW : World.alloc W2 _ = W3
                have u3 : Upd [] wc W3 := by rw [← hW]; exact u2.alloc _
                have hx6 : W3.heap[W2.heap.size]? = some (.cells #[.int .i64 x1, .int .i64 x2] 37 (0, 0)) := by rw [← hW]; exact Go.heap_alloc_last W2 _
                have own3 : W3.ownsRow wc.heap.size 37 2 v2 (0 + cap) (upVals [] ++ upVals (out.take cap)) := by rw [← hW]; exact own2.alloc _
                clear hW own2 g2 at2
                refine tree_same ⟨⟨_, u3⟩, rfl⟩ ?_
                refine tree_one ?_
                simp only [opsAt, List.map_cons, List.map_nil, List.getElem?_toArray, List.getElem?_cons_zero, List.getElem?_cons_succ, Option.getD_some]
                repeat (go_big_quiet_step (fail))
                refine wpQuiet_nil ?_
                refine L_append _ (.tmp 56) (.tmp 58) 35 rfl (by kernel_rfl) wc.heap.size 37 _ 2 16 Try.underlying35 info_up rfl (by omega) v2 (0 + cap) (upVals [] ++ upVals (out.take cap)) rfl own3 _ 1 _ (upVals [(x1, x2)]) rfl (by rw [upVals_len]; first | rfl | omega) (fun _ => ⟨W2.heap.size, 0, rfl, row_range hx6⟩) (upVals_one _) (by simp only [maxLen]; omega) (by omega) u3.size ?_
                intro v7 W7 own7 g7 at7
                have u7 : Upd [] wc W7 := u3.grown g7 (fun g hg hlt => by have := (own3.lt g hg).1; omega)
                go_wp2_with fail
                refine tree_same ⟨⟨_, u7⟩, rfl⟩ ?_
                refine tree_one ?_
                simp only [opsAt, List.map_cons, List.map_nil, List.getElem?_toArray, List.getElem?_cons_zero, List.getElem?_cons_succ, Option.getD_some]
                repeat (go_big_quiet_step (fail))
                refine wpQuiet_nil ?_
                refine L_append _ (.tmp 59) (.tmp 62) 35 rfl (by kernel_rfl) wc.heap.size 37 _ 2 16 Try.underlying35 info_up rfl (by omega) v7 (0 + cap + 1) (upVals [] ++ upVals (out.take cap) ++ upVals [(x1, x2)]) rfl own7 _ _ _ (upVals (out.drop cap)) rfl (by rw [upVals_len]; first | rfl | omega) (srcAt_ups (T2.out _ u7)) (upVals_one _) (by simp only [maxLen]; omega) (by omega) u7.size ?_
                intro v8 W8 own8 g8 at8
                have u8 : Upd [] wc W8 := u7.grown g8 (fun g hg hlt => by have := (own7.lt g hg).1; omega)
                have ow : Hid (W8.ownsRow w.heap.size 37 2 v8 (cap + 1) (upVals (srt (l.take (cap + 1))))) := Lib.hid (by
                  rw [HSN.out, ← HFIN.out]
                  have h9 := own8.mono hws
                  first
                    | exact h9
                    | (rw [show cap + 1 = 0 + cap + 1 + 0 by omega]; exact h9)
                    | (rw [show cap + 1 = 0 + cap + 1 + (cap - cap) by omega]; exact h9))
                have ux := Lib.hid (UU.out.trans u8)
                clear own8 g8 at8
                go_wp2_with fail
                refine tree_same ⟨⟨_, u8⟩, rfl⟩ ?_
                refine tree_done ?_
                simp only [opsAt, List.map_cons, List.map_nil, List.getElem?_toArray, List.getElem?_cons_zero, List.getElem?_cons_succ, Option.getD_some]
                repeat (go_big_quiet_step (fail))
                refine wpQuiet_nil ?_
                go_wp2_with fail
                go_roundg (L - (cap + 1))
                case measure => omega
                case rel => exact ⟨cap + 1, v8, rfl, by go_num, by omega, rfl, fun h => absurd h (by omega), ow, ux⟩
              · go_wp2_with fail
                generalize hW : World.alloc W1 _ = W2
                have u2 : Upd [] wc W2 := by rw [← hW]; exact u1.alloc _
                have hx6 : W2.heap[W1.heap.size]? = some (.cells #[.int .i64 x1, .int .i64 x2] 37 (0, 0)) := by rw [← hW]; exact Go.heap_alloc_last W1 _
                have o2 : W2.ownsRow wc.heap.size 37 2 (.slice (some ⟨wc.heap.size, 0, none⟩) 0 0) 0 (upVals []) := by rw [← hW]; exact o1.alloc _
                have hx7 := hx6
                clear hW o1
                refine tree_same ⟨⟨_, u2⟩, rfl⟩ ?_
                refine tree_one ?_
                simp only [opsAt, List.map_cons, List.map_nil, List.getElem?_toArray, List.getElem?_cons_zero, List.getElem?_cons_succ, Option.getD_some]
                repeat (go_big_quiet_step (fail))
                refine wpQuiet_nil ?_
                refine L_append _ (.tmp 52) (.tmp 55) 35 rfl (by kernel_rfl) wc.heap.size 37 _ 2 16 Try.underlying35 info_up rfl (by omega) (.slice (some ⟨wc.heap.size, 0, none⟩) 0 0) 0 (upVals []) rfl o2 _ _ _ (upVals (out.take cap)) rfl (by rw [upVals_len]; first | rfl | omega) (srcAt_ups (T1.out _ u2)) (upVals_one _) (by simp only [maxLen]; omega) (by omega) u2.size ?_
                intro v3 W3 own3 g3 at3
                have u3 : Upd [] wc W3 := u2.grown g3 (fun g hg hlt => by have := (o2.lt g hg).1; omega)
                have hx6 : W3.heap[W1.heap.size]? = some (.cells #[.int .i64 x1, .int .i64 x2] 37 (0, 0)) := by
                  rw [g3.block _ (lt_of_block hx7) (fun e => by have := s1.out; simp [Value.ownBlock] at e; omega)]; exact hx7
                clear g3 at3 hx7
                go_wp2_with fail
                refine tree_same ⟨⟨_, u3⟩, rfl⟩ ?_
                refine tree_one ?_
                simp only [opsAt, List.map_cons, List.map_nil, List.getElem?_toArray, List.getElem?_cons_zero, List.getElem?_cons_succ, Option.getD_some]
                repeat (go_big_quiet_step (fail))
                refine wpQuiet_nil ?_
                refine L_append _ (.tmp 56) (.tmp 58) 35 rfl (by kernel_rfl) wc.heap.size 37 _ 2 16 Try.underlying35 info_up rfl (by omega) v3 (0 + cap) (upVals [] ++ upVals (out.take cap)) rfl own3 _ 1 _ (upVals [(x1, x2)]) rfl (by rw [upVals_len]; first | rfl | omega) (fun _ => ⟨W1.heap.size, 0, rfl, row_range hx6⟩) (upVals_one _) (by simp only [maxLen]; omega) (by omega) u3.size ?_
                intro v7 W7 own7 g7 at7
                have u7 : Upd [] wc W7 := u3.grown g7 (fun g hg hlt => by have := (own3.lt g hg).1; omega)
                go_wp2_with fail
                refine tree_same ⟨⟨_, u7⟩, rfl⟩ ?_
                refine tree_one ?_
                simp only [opsAt, List.map_cons, List.map_nil, List.getElem?_toArray, List.getElem?_cons_zero, List.getElem?_cons_succ, Option.getD_some]
                repeat (go_big_quiet_step (fail))
                refine wpQuiet_nil ?_
                refine L_append _ (.tmp 59) (.tmp 62) 35 rfl (by kernel_rfl) wc.heap.size 37 _ 2 16 Try.underlying35 info_up rfl (by omega) v7 (0 + cap + 1) (upVals [] ++ upVals (out.take cap) ++ upVals [(x1, x2)]) rfl own7 _ _ _ (upVals (out.drop cap)) rfl (by rw [upVals_len]; first | rfl | omega) (srcAt_ups (T2.out _ u7)) (upVals_one _) (by simp only [maxLen]; omega) (by omega) u7.size ?_
                intro v8 W8 own8 g8 at8
                have u8 : Upd [] wc W8 := u7.grown g8 (fun g hg hlt => by have := (own7.lt g hg).1; omega)
                have ow : Hid (W8.ownsRow w.heap.size 37 2 v8 (cap + 1) (upVals (srt (l.take (cap + 1))))) := Lib.hid (by
                  rw [HSN.out, ← HFIN.out]
                  have h9 := own8.mono hws
                  first
                    | exact h9
                    | (rw [show cap + 1 = 0 + cap + 1 + 0 by omega]; exact h9)
                    | (rw [show cap + 1 = 0 + cap + 1 + (cap - cap) by omega]; exact h9))
                have ux := Lib.hid (UU.out.trans u8)
                clear own8 g8 at8
                go_wp2_with fail
                refine tree_same ⟨⟨_, u8⟩, rfl⟩ ?_
                refine tree_done ?_
                simp only [opsAt, List.map_cons, List.map_nil, List.getElem?_toArray, List.getElem?_cons_zero, List.getElem?_cons_succ, Option.getD_some]
                repeat (go_big_quiet_step (fail))
                refine wpQuiet_nil ?_
                go_wp2_with fail
                go_roundg (L - (cap + 1))
                case measure => omega
                case rel => exact ⟨cap + 1, v8, rfl, by go_num, by omega, rfl, fun h => absurd h (by omega), ow, ux⟩
            · go_wp2_with fail
              generalize hW : World.drew (World.alloc wc _) = W1
              have u1 : Upd [] wc W1 := by rw [← hW]; exact ((Upd.refl _ _).alloc _).drew
              have hx7 : W1.heap[wc.heap.size]? = some (.cells #[.int .i64 x1, .int .i64 x2] 37 (0, 0)) := by rw [← hW]; exact Go.heap_alloc_last wc _
              have s1 : Hid (W1.heap.size = wc.heap.size + 1) := Lib.hid (by rw [← hW]; simp)
              clear hW
              refine tree_same ⟨⟨_, u1⟩, rfl⟩ ?_
              refine tree_one ?_
              simp only [opsAt, List.map_cons, List.map_nil, List.getElem?_toArray, List.getElem?_cons_zero, List.getElem?_cons_succ, Option.getD_some]
              repeat (go_big_quiet_step (fail))
              refine wpQuiet_nil ?_
              go_wp2_with fail
              generalize hW2 : World.alloc W1 _ = W2
              have u2 : Upd [] wc W2 := by rw [← hW2]; exact u1.alloc _
              have o2 : W2.ownsRow wc.heap.size 37 2 (.slice (some ⟨W1.heap.size, 0, none⟩) 0 0) 0 (upVals []) := by rw [← hW2]; exact World.ownsRow_lit W1 #[] 0 u1.size (by simp [maxLen]) rfl
              have hx8 : W2.heap[wc.heap.size]? = some (.cells #[.int .i64 x1, .int .i64 x2] 37 (0, 0)) := by rw [← hW2]; exact heap_old hx7 _
              clear hW2
              refine tree_same ⟨⟨_, u2⟩, rfl⟩ ?_
              refine tree_one ?_
              simp only [opsAt, List.map_cons, List.map_nil, List.getElem?_toArray, List.getElem?_cons_zero, List.getElem?_cons_succ, Option.getD_some]
              repeat (go_big_quiet_step (fail))
              refine wpQuiet_nil ?_
              refine L_append _ (.tmp 52) (.tmp 55) 35 rfl (by kernel_rfl) wc.heap.size 37 _ 2 16 Try.underlying35 info_up rfl (by omega) (.slice (some ⟨W1.heap.size, 0, none⟩) 0 0) 0 (upVals []) rfl o2 _ _ _ (upVals (out.take cap)) rfl (by rw [upVals_len]; first | rfl | omega) (srcAt_ups (T1.out _ u2)) (upVals_one _) (by simp only [maxLen]; omega) (by omega) u2.size ?_
              intro v3 W3 own3 g3 at3
              have u3 : Upd [] wc W3 := u2.grown g3 (fun g hg hlt => by have := (o2.lt g hg).1; omega)
              have hx6 : W3.heap[wc.heap.size]? = some (.cells #[.int .i64 x1, .int .i64 x2] 37 (0, 0)) := by
                rw [g3.block _ (lt_of_block hx8) (fun e => by have := s1.out; simp [Value.ownBlock] at e; omega)]; exact hx8
              clear g3 at3 hx7 hx8
              go_wp2_with fail
              refine tree_same ⟨⟨_, u3⟩, rfl⟩ ?_
              refine tree_one ?_
              simp only [opsAt, List.map_cons, List.map_nil, List.getElem?_toArray, List.getElem?_cons_zero, List.getElem?_cons_succ, Option.getD_some]
              repeat (go_big_quiet_step (fail))
              refine wpQuiet_nil ?_
              refine L_append _ (.tmp 56) (.tmp 58) 35 rfl (by kernel_rfl) wc.heap.size 37 _ 2 16 Try.underlying35 info_up rfl (by omega) v3 (0 + cap) (upVals [] ++ upVals (out.take cap)) rfl own3 _ 1 _ (upVals [(x1, x2)]) rfl (by rw [upVals_len]; first | rfl | omega) (fun _ => ⟨wc.heap.size, 0, rfl, row_range hx6⟩) (upVals_one _) (by simp only [maxLen]; omega) (by omega) u3.size ?_
              intro v7 W7 own7 g7 at7
              have u7 : Upd [] wc W7 := u3.grown g7 (fun g hg hlt => by have := (own3.lt g hg).1; omega)
              go_wp2_with fail
              refine tree_same ⟨⟨_, u7⟩, rfl⟩ ?_
              refine tree_one ?_
              simp only [opsAt, List.map_cons, List.map_nil, List.getElem?_toArray, List.getElem?_cons_zero, List.getElem?_cons_succ, Option.getD_some]
              repeat (go_big_quiet_step (fail))
              refine wpQuiet_nil ?_
              refine L_append _ (.tmp 59) (.tmp 62) 35 rfl (by kernel_rfl) wc.heap.size 37 _ 2 16 Try.underlying35 info_up rfl (by omega) v7 (0 + cap + 1) (upVals [] ++ upVals (out.take cap) ++ upVals [(x1, x2)]) rfl own7 _ _ _ (upVals (out.drop cap)) rfl (by rw [upVals_len]; first | rfl | omega) (srcAt_ups (T2.out _ u7)) (upVals_one _) (by simp only [maxLen]; omega) (by omega) u7.size ?_
              intro v8 W8 own8 g8 at8
              have u8 : Upd [] wc W8 := u7.grown g8 (fun g hg hlt => by have := (own7.lt g hg).1; omega)
              have ow : Hid (W8.ownsRow w.heap.size 37 2 v8 (cap + 1) (upVals (srt (l.take (cap + 1))))) := Lib.hid (by
                rw [HSN.out, ← HFIN.out]
                have h9 := own8.mono hws
                first
                  | exact h9
                  | (rw [show cap + 1 = 0 + cap + 1 + 0 by omega]; exact h9)
                  | (rw [show cap + 1 = 0 + cap + 1 + (cap - cap) by omega]; exact h9))
              have ux := Lib.hid (UU.out.trans u8)
              clear own8 g8 at8
              go_wp2_with fail
              refine tree_same ⟨⟨_, u8⟩, rfl⟩ ?_
              refine tree_done ?_
              simp only [opsAt, List.map_cons, List.map_nil, List.getElem?_toArray, List.getElem?_cons_zero, List.getElem?_cons_succ, Option.getD_some]
              repeat (go_big_quiet_step (fail))
              refine wpQuiet_nil ?_
              go_wp2_with fail
              go_roundg (L - (cap + 1))
              case measure => omega
              case rel => exact ⟨cap + 1, v8, rfl, by go_num, by omega, rfl, fun h => absurd h (by omega), ow, ux⟩
          · have T1 : Hid (∀ z, Upd [] wc z → UpsAt z (some ⟨gb, 0, none⟩) (out.take j)) := Lib.hid (fun z u => (HV.out.of_upd u).take j)
            have T2 : Hid (∀ z, Upd [] wc z → UpsAt z (some ⟨gb, j * 2, none⟩) (out.drop j)) := Lib.hid (fun z u => by have := (HV.out.of_upd u).drop j; rwa [Nat.zero_add] at this)
            go_wp2_with (fail)
            refine wp_region_tree (fun z => ∃ x : Near [] wc, z = x.1) (.two [1, 2, 3, 5, 8, 9, 10] 0 (.two [] 4 (.one [] 6 (.one [] 7 (.one [] 11 (.done [12])))) 6 (.one [] 4 (.one [] 7 (.one [] 11 (.done [12]))))) 6 (.one [] 0 (.one [] 4 (.one [] 7 (.one [] 11 (.done [12])))))) (by kernel_rfl) (by kernel_rfl) (by decide) (by kernel_rfl) (fun _ d _ _ _ h => by cases d <;> exact h) ⟨⟨(wc).drew, (Upd.refl _ _).drew⟩, rfl⟩ ?_
            refine tree_two ?_
            simp only [opsAt, List.map_cons, List.map_nil, List.getElem?_toArray, List.getElem?_cons_zero, List.getElem?_cons_succ, Option.getD_some]
            repeat (go_big_quiet_step (fail))
            refine wpQuiet_nil ?_
            refine ⟨?_, ?_⟩
            · go_wp2_with fail
              generalize hW : World.drew (World.alloc wc _) = W1
              have u1 : Upd [] wc W1 := by rw [← hW]; exact ((Upd.refl _ _).alloc _).drew
              have s1 : Hid (W1.heap.size = wc.heap.size + 1) := Lib.hid (by rw [← hW]; simp)
              have o1 : W1.ownsRow wc.heap.size 37 2 (.slice (some ⟨wc.heap.size, 0, none⟩) 0 0) 0 (upVals []) := by rw [← hW]; exact World.ownsRow_lit wc #[] 0 (Nat.le_refl _) (by simp [maxLen]) rfl
              clear hW
              refine tree_same ⟨⟨_, u1⟩, rfl⟩ ?_
              refine tree_two ?_
              simp only [opsAt, List.map_cons, List.map_nil, List.getElem?_toArray, List.getElem?_cons_zero, List.getElem?_cons_succ, Option.getD_some]
              repeat (go_big_quiet_step (fail))
              refine wpQuiet_nil ?_
              refine ⟨?_, ?_⟩
              ·
                refine L_append _ (.tmp 52) (.tmp 55) 35 rfl (by kernel_rfl) wc.heap.size 37 _ 2 16 Try.underlying35 info_up rfl (by omega) (.slice (some ⟨wc.heap.size, 0, none⟩) 0 0) 0 (upVals []) rfl o1 _ _ _ (upVals (out.take j)) rfl (by rw [upVals_len]; first | rfl | omega) (srcAt_ups (T1.out _ u1)) (upVals_one _) (by simp only [maxLen]; omega) (by omega) u1.size ?_
                intro v2 W2 own2 g2 at2
                have u2 : Upd [] wc W2 := u1.grown g2 (fun g hg hlt => by have := (o1.lt g hg).1; omega)
                go_wp2_with fail
                refine tree_same ⟨⟨_, u2⟩, rfl⟩ ?_
                refine tree_one ?_
                simp only [opsAt, List.map_cons, List.map_nil, List.getElem?_toArray, List.getElem?_cons_zero, List.getElem?_cons_succ, Option.getD_some]
                repeat (go_big_quiet_step (fail))
                refine wpQuiet_nil ?_
                go_wp2_with fail
                generalize hW : World.alloc W2 _ = W3
                have u3 : Upd [] wc W3 := by rw [← hW]; exact u2.alloc _
                have hx6 : W3.heap[W2.heap.size]? = some (.cells #[.int .i64 x1, .int .i64 x2] 37 (0, 0)) := by rw [← hW]; exact Go.heap_alloc_last W2 _
                have own3 : W3.ownsRow wc.heap.size 37 2 v2 (0 + j) (upVals [] ++ upVals (out.take j)) := by rw [← hW]; exact own2.alloc _
                clear hW own2 g2 at2
                refine tree_same ⟨⟨_, u3⟩, rfl⟩ ?_
                refine tree_one ?_
                simp only [opsAt, List.map_cons, List.map_nil, List.getElem?_toArray, List.getElem?_cons_zero, List.getElem?_cons_succ, Option.getD_some]
                repeat (go_big_quiet_step (fail))
                refine wpQuiet_nil ?_
                refine L_append _ (.tmp 56) (.tmp 58) 35 rfl (by kernel_rfl) wc.heap.size 37 _ 2 16 Try.underlying35 info_up rfl (by omega) v2 (0 + j) (upVals [] ++ upVals (out.take j)) rfl own3 _ 1 _ (upVals [(x1, x2)]) rfl (by rw [upVals_len]; first | rfl | omega) (fun _ => ⟨W2.heap.size, 0, rfl, row_range hx6⟩) (upVals_one _) (by simp only [maxLen]; omega) (by omega) u3.size ?_
                intro v7 W7 own7 g7 at7
                have u7 : Upd [] wc W7 := u3.grown g7 (fun g hg hlt => by have := (own3.lt g hg).1; omega)
                go_wp2_with fail
                refine tree_same ⟨⟨_, u7⟩, rfl⟩ ?_
                refine tree_one ?_
                simp only [opsAt, List.map_cons, List.map_nil, List.getElem?_toArray, List.getElem?_cons_zero, List.getElem?_cons_succ, Option.getD_some]
                repeat (go_big_quiet_step (fail))
                refine wpQuiet_nil ?_
                refine L_append _ (.tmp 59) (.tmp 62) 35 rfl (by kernel_rfl) wc.heap.size 37 _ 2 16 Try.underlying35 info_up rfl (by omega) v7 (0 + j + 1) (upVals [] ++ upVals (out.take j) ++ upVals [(x1, x2)]) rfl own7 _ _ _ (upVals (out.drop j)) rfl (by rw [upVals_len]; first | rfl | omega) (srcAt_ups (T2.out _ u7)) (upVals_one _) (by simp only [maxLen]; omega) (by omega) u7.size ?_
                intro v8 W8 own8 g8 at8
                have u8 : Upd [] wc W8 := u7.grown g8 (fun g hg hlt => by have := (own7.lt g hg).1; omega)
                have ow : Hid (W8.ownsRow w.heap.size 37 2 v8 (k + 1) (upVals (srt (l.take (k + 1))))) := Lib.hid (by
                  rw [HSN.out, ← HFIN.out]
                  have h9 := own8.mono hws
                  first
                    | exact h9
                    | (rw [show k + 1 = 0 + j + 1 + 0 by omega]; exact h9)
                    | (rw [show k + 1 = 0 + j + 1 + (k - j) by omega]; exact h9))
                have ux := Lib.hid (UU.out.trans u8)
                clear own8 g8 at8
                go_wp2_with fail
                refine tree_same ⟨⟨_, u8⟩, rfl⟩ ?_
                refine tree_done ?_
                simp only [opsAt, List.map_cons, List.map_nil, List.getElem?_toArray, List.getElem?_cons_zero, List.getElem?_cons_succ, Option.getD_some]
                repeat (go_big_quiet_step (fail))
                refine wpQuiet_nil ?_
                go_wp2_with fail
                go_roundg (L - (k + 1))
                case measure => omega
                case rel => exact ⟨k + 1, v8, rfl, by go_num, by omega, rfl, fun h => absurd h (by omega), ow, ux⟩
              · go_wp2_with fail
                generalize hW : World.alloc W1 _ = W2
                have u2 : Upd [] wc W2 := by rw [← hW]; exact u1.alloc _
                have hx6 : W2.heap[W1.heap.size]? = some (.cells #[.int .i64 x1, .int .i64 x2] 37 (0, 0)) := by rw [← hW]; exact Go.heap_alloc_last W1 _
                have o2 : W2.ownsRow wc.heap.size 37 2 (.slice (some ⟨wc.heap.size, 0, none⟩) 0 0) 0 (upVals []) := by rw [← hW]; exact o1.alloc _
                have hx7 := hx6
                clear hW o1
                refine tree_same ⟨⟨_, u2⟩, rfl⟩ ?_
                refine tree_one ?_
                simp only [opsAt, List.map_cons, List.map_nil, List.getElem?_toArray, List.getElem?_cons_zero, List.getElem?_cons_succ, Option.getD_some]
                repeat (go_big_quiet_step (fail))
                refine wpQuiet_nil ?_
                refine L_append _ (.tmp 52) (.tmp 55) 35 rfl (by kernel_rfl) wc.heap.size 37 _ 2 16 Try.underlying35 info_up rfl (by omega) (.slice (some ⟨wc.heap.size, 0, none⟩) 0 0) 0 (upVals []) rfl o2 _ _ _ (upVals (out.take j)) rfl (by rw [upVals_len]; first | rfl | omega) (srcAt_ups (T1.out _ u2)) (upVals_one _) (by simp only [maxLen]; omega) (by omega) u2.size ?_
                intro v3 W3 own3 g3 at3
                have u3 : Upd [] wc W3 := u2.grown g3 (fun g hg hlt => by have := (o2.lt g hg).1; omega)
                have hx6 : W3.heap[W1.heap.size]? = some (.cells #[.int .i64 x1, .int .i64 x2] 37 (0, 0)) := by
                  rw [g3.block _ (lt_of_block hx7) (fun e => by have := s1.out; simp [Value.ownBlock] at e; omega)]; exact hx7
                clear g3 at3 hx7
                go_wp2_with fail
                refine tree_same ⟨⟨_, u3⟩, rfl⟩ ?_
                refine tree_one ?_
                simp only [opsAt, List.map_cons, List.map_nil, List.getElem?_toArray, List.getElem?_cons_zero, List.getElem?_cons_succ, Option.getD_some]
                repeat (go_big_quiet_step (fail))
                refine wpQuiet_nil ?_
                refine L_append _ (.tmp 56) (.tmp 58) 35 rfl (by kernel_rfl) wc.heap.size 37 _ 2 16 Try.underlying35 info_up rfl (by omega) v3 (0 + j) (upVals [] ++ upVals (out.take j)) rfl own3 _ 1 _ (upVals [(x1, x2)]) rfl (by rw [upVals_len]; first | rfl | omega) (fun _ => ⟨W1.heap.size, 0, rfl, row_range hx6⟩) (upVals_one _) (by simp only [maxLen]; omega) (by omega) u3.size ?_
                intro v7 W7 own7 g7 at7
                have u7 : Upd [] wc W7 := u3.grown g7 (fun g hg hlt => by have := (own3.lt g hg).1; omega)
                go_wp2_with fail
                refine tree_same ⟨⟨_, u7⟩, rfl⟩ ?_
                refine tree_one ?_
                simp only [opsAt, List.map_cons, List.map_nil, List.getElem?_toArray, List.getElem?_cons_zero, List.getElem?_cons_succ, Option.getD_some]
                repeat (go_big_quiet_step (fail))
                refine wpQuiet_nil ?_
                refine L_append _ (.tmp 59) (.tmp 62) 35 rfl (by kernel_rfl) wc.heap.size 37 _ 2 16 Try.underlying35 info_up rfl (by omega) v7 (0 + j + 1) (upVals [] ++ upVals (out.take j) ++ upVals [(x1, x2)]) rfl own7 _ _ _ (upVals (out.drop j)) rfl (by rw [upVals_len]; first | rfl | omega) (srcAt_ups (T2.out _ u7)) (upVals_one _) (by simp only [maxLen]; omega) (by omega) u7.size ?_
                intro v8 W8 own8 g8 at8
                have u8 : Upd [] wc W8 := u7.grown g8 (fun g hg hlt => by have := (own7.lt g hg).1; omega)
                have ow : Hid (W8.ownsRow w.heap.size 37 2 v8 (k + 1) (upVals (srt (l.take (k + 1))))) := Lib.hid (by
                  rw [HSN.out, ← HFIN.out]
                  have h9 := own8.mono hws
                  first
                    | exact h9
                    | (rw [show k + 1 = 0 + j + 1 + 0 by omega]; exact h9)
                    | (rw [show k + 1 = 0 + j + 1 + (k - j) by omega]; exact h9))
                have ux := Lib.hid (UU.out.trans u8)
                clear own8 g8 at8
                go_wp2_with fail
                refine tree_same ⟨⟨_, u8⟩, rfl⟩ ?_
                refine tree_done ?_
                simp only [opsAt, List.map_cons, List.map_nil, List.getElem?_toArray, List.getElem?_cons_zero, List.getElem?_cons_succ, Option.getD_some]
                repeat (go_big_quiet_step (fail))
                refine wpQuiet_nil ?_
                go_wp2_with fail
                go_roundg (L - (k + 1))
                case measure => omega
                case rel => exact ⟨k + 1, v8, rfl, by go_num, by omega, rfl, fun h => absurd h (by omega), ow, ux⟩
            · go_wp2_with fail
              generalize hW : World.drew (World.alloc wc _) = W1
              have u1 : Upd [] wc W1 := by rw [← hW]; exact ((Upd.refl _ _).alloc _).drew
              have hx7 : W1.heap[wc.heap.size]? = some (.cells #[.int .i64 x1, .int .i64 x2] 37 (0, 0)) := by rw [← hW]; exact Go.heap_alloc_last wc _
              have s1 : Hid (W1.heap.size = wc.heap.size + 1) := Lib.hid (by rw [← hW]; simp)
              clear hW
              refine tree_same ⟨⟨_, u1⟩, rfl⟩ ?_
              refine tree_one ?_
              simp only [opsAt, List.map_cons, List.map_nil, List.getElem?_toArray, List.getElem?_cons_zero, List.getElem?_cons_succ, Option.getD_some]
              repeat (go_big_quiet_step (fail))
              refine wpQuiet_nil ?_
              go_wp2_with fail
              generalize hW2 : World.alloc W1 _ = W2
              have u2 : Upd [] wc W2 := by rw [← hW2]; exact u1.alloc _
              have o2 : W2.ownsRow wc.heap.size 37 2 (.slice (some ⟨W1.heap.size, 0, none⟩) 0 0) 0 (upVals []) := by rw [← hW2]; exact World.ownsRow_lit W1 #[] 0 u1.size (by simp [maxLen]) rfl
              have hx8 : W2.heap[wc.heap.size]? = some (.cells #[.int .i64 x1, .int .i64 x2] 37 (0, 0)) := by rw [← hW2]; exact heap_old hx7 _
              clear hW2
              refine tree_same ⟨⟨_, u2⟩, rfl⟩ ?_
              refine tree_one ?_
              simp only [opsAt, List.map_cons, List.map_nil, List.getElem?_toArray, List.getElem?_cons_zero, List.getElem?_cons_succ, Option.getD_some]
              repeat (go_big_quiet_step (fail))
              refine wpQuiet_nil ?_
              refine L_append _ (.tmp 52) (.tmp 55) 35 rfl (by kernel_rfl) wc.heap.size 37 _ 2 16 Try.underlying35 info_up rfl (by omega) (.slice (some ⟨W1.heap.size, 0, none⟩) 0 0) 0 (upVals []) rfl o2 _ _ _ (upVals (out.take j)) rfl (by rw [upVals_len]; first | rfl | omega) (srcAt_ups (T1.out _ u2)) (upVals_one _) (by simp only [maxLen]; omega) (by omega) u2.size ?_
              intro v3 W3 own3 g3 at3
              have u3 : Upd [] wc W3 := u2.grown g3 (fun g hg hlt => by have := (o2.lt g hg).1; omega)
              have hx6 : W3.heap[wc.heap.size]? = some (.cells #[.int .i64 x1, .int .i64 x2] 37 (0, 0)) := by
                rw [g3.block _ (lt_of_block hx8) (fun e => by have := s1.out; simp [Value.ownBlock] at e; omega)]; exact hx8
              clear g3 at3 hx7 hx8
              go_wp2_with fail
              refine tree_same ⟨⟨_, u3⟩, rfl⟩ ?_
              refine tree_one ?_
              simp only [opsAt, List.map_cons, List.map_nil, List.getElem?_toArray, List.getElem?_cons_zero, List.getElem?_cons_succ, Option.getD_some]
              repeat (go_big_quiet_step (fail))
              refine wpQuiet_nil ?_
              refine L_append _ (.tmp 56) (.tmp 58) 35 rfl (by kernel_rfl) wc.heap.size 37 _ 2 16 Try.underlying35 info_up rfl (by omega) v3 (0 + j) (upVals [] ++ upVals (out.take j)) rfl own3 _ 1 _ (upVals [(x1, x2)]) rfl (by rw [upVals_len]; first | rfl | omega) (fun _ => ⟨wc.heap.size, 0, rfl, row_range hx6⟩) (upVals_one _) (by simp only [maxLen]; omega) (by omega) u3.size ?_
              intro v7 W7 own7 g7 at7
              have u7 : Upd [] wc W7 := u3.grown g7 (fun g hg hlt => by have := (own3.lt g hg).1; omega)
              go_wp2_with fail
              refine tree_same ⟨⟨_, u7⟩, rfl⟩ ?_
              refine tree_one ?_
              simp only [opsAt, List.map_cons, List.map_nil, List.getElem?_toArray, List.getElem?_cons_zero, List.getElem?_cons_succ, Option.getD_some]
              repeat (go_big_quiet_step (fail))
              refine wpQuiet_nil ?_
              refine L_append _ (.tmp 59) (.tmp 62) 35 rfl (by kernel_rfl) wc.heap.size 37 _ 2 16 Try.underlying35 info_up rfl (by omega) v7 (0 + j + 1) (upVals [] ++ upVals (out.take j) ++ upVals [(x1, x2)]) rfl own7 _ _ _ (upVals (out.drop j)) rfl (by rw [upVals_len]; first | rfl | omega) (srcAt_ups (T2.out _ u7)) (upVals_one _) (by simp only [maxLen]; omega) (by omega) u7.size ?_
              intro v8 W8 own8 g8 at8
              have u8 : Upd [] wc W8 := u7.grown g8 (fun g hg hlt => by have := (own7.lt g hg).1; omega)
              have ow : Hid (W8.ownsRow w.heap.size 37 2 v8 (k + 1) (upVals (srt (l.take (k + 1))))) := Lib.hid (by
                rw [HSN.out, ← HFIN.out]
                have h9 := own8.mono hws
                first
                  | exact h9
                  | (rw [show k + 1 = 0 + j + 1 + 0 by omega]; exact h9)
                  | (rw [show k + 1 = 0 + j + 1 + (k - j) by omega]; exact h9))
              have ux := Lib.hid (UU.out.trans u8)
              clear own8 g8 at8
              go_wp2_with fail
              refine tree_same ⟨⟨_, u8⟩, rfl⟩ ?_
              refine tree_done ?_
              simp only [opsAt, List.map_cons, List.map_nil, List.getElem?_toArray, List.getElem?_cons_zero, List.getElem?_cons_succ, Option.getD_some]
              repeat (go_big_quiet_step (fail))
              refine wpQuiet_nil ?_
              go_wp2_with fail
              go_roundg (L - (k + 1))
              case measure => omega
              case rel => exact ⟨k + 1, v8, rfl, by go_num, by omega, rfl, fun h => absurd h (by omega), ow, ux⟩
    · obtain rfl : k = L := by omega
      have dk : decide ((k : Int) < (k : Int)) = false := decide_eq_false (by omega)
      have et : l.take k = l := by rw [← HL.out, List.take_length]
      rw [et] at HO
      obtain ⟨B, cap, rfl, hn, hcp, hc2, hu, h0, ha⟩ := ups_of_own HO.out
      have HU := Lib.hid hu
      rw [srt_len, HL.out] at hcp ⊢
      clear ha HO hu hn et h0 hnil
      go_wp2_with (fail)
      go_ret
      exact ⟨B, cap, rfl, U.out, hcp, hc2, HU.out⟩
end Go.Proofs.Ytgdmmhedcklkaaa
