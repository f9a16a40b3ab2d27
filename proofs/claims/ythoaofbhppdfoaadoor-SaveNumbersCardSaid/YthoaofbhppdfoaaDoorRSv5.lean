/- The document's checkpoints, in memory: Load. -/
import Derived.Test.YthoaofbhppdfoaaDoorRSv4
import Derived.Test.YthoaofbhppdfoaaDoorTree
namespace Go.Proofs.YthoaofbhppdfoaaDoor
open Go.RowKit Go.Dio
set_option linter.unusedSimpArgs false
set_option linter.unusedVariables false

theorem nth_rep (n j : Nat) : nth (List.replicate n 0) j = 0 := by
  unfold nth
  rw [List.getD_eq_getElem?_getD, List.getElem?_replicate]
  split <;> rfl
set_option maxRecDepth 20000 in
set_option maxHeartbeats 2000000 in
/-- The document's Load. -/
theorem RSLoad_calls (sb b d : Nat) (l : List Nat) (f a : Nat) (w : World) (h : RHoldAt sb b d l f a w) (hl : l.length = 79) (hf : f < 9223372036854760000) :
    Calls Tryd.prog 10 #[.pointer (some ⟨sb, 0, none⟩)] w fun e w' => e = .returned (loadV l) ∧ RHoldAt sb b d (loadL l) (f + loadF l) a w' ∧ Upd [b, d] w w' := by
  have hy : (peekL l 78).1 = (dec (nth l 78)).1 ∧ (peekL l 78).2 = (dec (nth l 78)).2 := by rw [show (78 : Int) = ((78 : Nat) : Int) from rfl, peekL, inn_of (by omega) (by omega)]; exact ⟨rfl, rfl⟩
  have G : ∀ w1, RHoldAt sb b d l f a w1 → Calls Tryd.prog 24 #[.pointer (some ⟨b, 0, none⟩), .int .i64 78] w1 fun e w' => e = .returned (.tuple #[.int .u32 ((dec (nth l 78)).1 : Int), .int .i64 ((dec (nth l 78)).2 : Int)]) ∧ RHoldAt sb b d (getL l 78) (f + getF l 78) a w' ∧ Upd [b, d] w1 w' := fun w1 h => by
    rw [← hy.1, ← hy.2]; exact (RGet_calls _ b d l f 78 w1 h.row (by omega)).mono fun e w' ⟨he, hr, hu⟩ => ⟨he, h.step hr hu (by simp), hu⟩
  have hylt := dec_lt32 (nth l 78)
  have hm := and_one32 _ hylt
  have hK : latP l = (dec (nth l 78)).1 % 2 := rfl
  have hVd : loadV l = if loadOk l then .tuple #[.int .u32 ((nth (loadW l) 0 : Nat) : Int), .agg (nums .u32 (0 :: ((loadW l).drop 1).take 31)), .agg (nums .u32 (((loadW l).drop 32).take 5)), .int .i64 ((nth (loadW l) 37 : Nat) : Int), .bool true]
    else .tuple #[.int .u32 0, .agg (nums .u32 (List.replicate 32 0)), .agg (nums .u32 (List.replicate 5 0)), .int .i64 0, .bool false] := rfl
  have hOk : loadOk l = ((rightP (getL l 78) (latP l) || rightP (gets (getL l 78) (39 * latP l) 39) (1 - latP l)) && decide ((dec (nth l 78)).2 ≠ 2)) := rfl
  have hWd : loadW l = if rightP (getL l 78) (latP l) then valsL (getL l 78) (39 * latP l) 39 else valsL (gets (getL l 78) (39 * latP l) 39) (39 * (1 - latP l)) 39 := rfl
  have hLd : loadL l = if rightP (getL l 78) (latP l) then gets (getL l 78) (39 * latP l) 39 else gets (gets (getL l 78) (39 * latP l) 39) (39 * (1 - latP l)) 39 := rfl
  have hFd : loadF l = getF l 78 + (if rightP (getL l 78) (latP l) then getsF (getL l 78) (39 * latP l) 39 else getsF (getL l 78) (39 * latP l) 39 + getsF (gets (getL l 78) (39 * latP l) 39) (39 * (1 - latP l)) 39) := rfl
  have gF : getF l 78 ≤ 1 := by unfold getF; split <;> omega
  rw [hK] at hOk hWd hLd hFd
  have l1l : (getL l 78).length = 79 := by rw [getL_len, hl]
  generalize loadV l = RV at hVd ⊢
  generalize loadOk l = RO at hVd hOk
  have hWl : (loadW l).length = 39 := by rw [hWd]; split <;> rw [valsL_len]
  have hWb : ∀ i, nth (loadW l) i < 2 ^ 32 := fun i => by rw [hWd]; split <;> exact nth_lt (valsL_lt _ _ _) (by decide) i
  generalize loadW l = RW at hVd hWd hWl hWb
  generalize loadL l = RL at hLd ⊢
  generalize loadF l = RF at hFd ⊢
  generalize (dec (nth l 78)).1 = y at G hm hylt hOk hWd hLd hFd
  generalize (dec (nth l 78)).2 = s at G hOk
  have hm2 : y % 2 < 2 := Nat.mod_lt _ (by decide)
  generalize y % 2 = m at hm hm2 hOk hWd hLd hFd
  generalize getL l 78 = l1 at G l1l hOk hWd hLd hFd
  generalize getF l 78 = f1 at G gF hFd
  have g2 : getsF l1 (39 * m) 39 ≤ 39 := getsF_le _ _ _
  have l2l : (gets l1 (39 * m) 39).length = 79 := by rw [gets_len, l1l]
  have READ1 := Lib.hid (fun wz (hz : RHoldAt sb b d l1 (f + f1) a wz) => rread_calls sb b d l1 (f + f1) a m wz hz l1l (by omega) (by omega))
  have READ2 := Lib.hid (fun wz (hz : RHoldAt sb b d (gets l1 (39 * m) 39) (f + f1 + getsF l1 (39 * m) 39) a wz) => rread_calls sb b d (gets l1 (39 * m) 39) (f + f1 + getsF l1 (39 * m) 39) a (1 - m) wz hz l2l (by omega) (by omega))
  generalize rightP l1 m = R1 at READ1 hOk hWd hLd hFd
  generalize rightP (gets l1 (39 * m) 39) (1 - m) = R2 at READ2 hOk
  generalize valsL l1 (39 * m) 39 = V1 at READ1 hWd
  generalize valsL (gets l1 (39 * m) 39) (39 * (1 - m)) 39 = V2 at READ2 hWd
  have hm1 : 1 - (m : Int) = ((1 - m : Nat) : Int) := by omega
  generalize 1 - m = m' at READ2 hLd hFd hm1
  generalize gets (gets l1 (39 * m) 39) (39 * m') 39 = l3 at READ2 hLd
  generalize getsF (gets l1 (39 * m) 39) (39 * m') 39 = f3 at READ2 hFd
  generalize gets l1 (39 * m) 39 = l2 at READ1 READ2 hLd l2l
  generalize getsF l1 (39 * m) 39 = f2 at READ1 READ2 hFd g2
  have H := Lib.hid h
  have GET := Lib.hid G
  have HVD := Lib.hid hVd
  have HOK := Lib.hid hOk
  have HWD := Lib.hid hWd
  have HLD := Lib.hid hLd
  have HFD := Lib.hid hFd
  have HWL := Lib.hid hWl
  have HWB := Lib.hid hWb
  have HD := Lib.hid (show sb < w.heap.size ∧ b < w.heap.size ∧ d < w.heap.size ∧ 0 < w.heap.size from ⟨h.slt, h.row.blt, h.row.dlt, h.row.tz.lt⟩)
  clear h G hVd hOk hWd hLd hFd hWl hWb hy hylt hK gF g2 l1l l2l
  obtain ⟨q, hq⟩ : ∃ q, q = w.heap.size := ⟨_, rfl⟩
  have HQ := Lib.hid hq
  clear hq
  go_enter Tryd.func10, Tryd.ntmps10
  go_upto_region 1 with (fail)
  rw [← HQ.out]
  generalize hW : World.alloc (World.alloc w _) _ = w1
  have B1 : Hid (w1.heap[q]? = some (.cells (nums .u32 (List.replicate 32 0)) 27 (0, 0))) := Lib.hid (by rw [HQ.out, ← hW]; exact heap_old (Go.heap_alloc_last w _) _)
  have B2 : Hid (w1.heap[q + 1]? = some (.cells (nums .u32 (List.replicate 5 0)) 28 (0, 0))) := Lib.hid (by rw [HQ.out, ← hW]; exact alloc_two w _ _)
  have U : Hid (Upd [] w w1) := Lib.hid (by rw [← hW]; exact ((Upd.refl [] w).alloc _).alloc _)
  clear hW
  replace H := Lib.hid (H.out.upd0 U.out)
  have hq1 : q + 1 < w1.heap.size := lt_of_block B2.out
  have hqb : q ≠ b ∧ q ≠ d ∧ q + 1 ≠ b ∧ q + 1 ≠ d := by have := HD.out; have := HQ.out; omega
  have c0 : w1.cell? ⟨sb, 0, none⟩ = some (.pointer (some ⟨b, 0, none⟩)) := by rw [cells_of H.out.cell]; rfl
  go_wp2_with (fail)
  refine (GET.out w1 H.out).mono ?_
  rintro e w2 ⟨rfl, h', u⟩
  replace B1 := Lib.hid (u.keep B1.out (by simp; omega))
  replace B2 := Lib.hid (u.keep B2.out (by simp; omega))
  have UU : Hid (Upd [b, d] w w2) := Lib.hid ((U.out.mono (by simp)).trans u)
  replace H := Lib.hid h'
  have hq2 : q + 1 < w2.heap.size := lt_of_block B2.out
  clear h' u c0 U GET hq1
  go_wp2_with (fail)
  refine (READ1.out w2 H.out).mono ?_
  rintro e w3 ⟨g, cp, rfl, hg, hcp, hs, h', u⟩
  replace B1 := Lib.hid (u.keep B1.out (by simp; omega))
  replace B2 := Lib.hid (u.keep B2.out (by simp; omega))
  replace UU := Lib.hid (UU.out.trans u)
  replace H := Lib.hid h'
  have SL := Lib.hid hs
  have hgq : q + 1 < g := by omega
  have hw3 : w2.heap.size ≤ w3.heap.size := u.size
  clear h' u READ1 hs
  go_upto_if 32 with (fail)
  go_cut [9, 10] (fun v9 v10 wc => ∃ g c, ∃ G : Bool, v9 = .slice (some ⟨g, 0, none⟩) 39 c ∧ v10 = .bool G ∧ q + 1 < g ∧ Hid (RO = (G && decide (s ≠ 2))) ∧ Hid (SlAt wc g RW) ∧ Hid (RHoldAt sb b d RL (f + RF) a wc) ∧ Hid (wc.heap[q]? = some (.cells (nums .u32 (List.replicate 32 0)) 27 (0, 0))) ∧ Hid (wc.heap[q + 1]? = some (.cells (nums .u32 (List.replicate 5 0)) 28 (0, 0))) ∧ Hid (Upd [b, d] w wc))
  case first =>
    cases R1
    · go_wp2_with (fail)
      refine (READ2.out w3 H.out).mono ?_
      rintro e w4 ⟨g', cp', rfl, hg', hcp', hs, h', u⟩
      have e1 : RL = l3 := by rw [HLD.out, if_neg (by decide)]
      have e2 : f + RF = f + f1 + f2 + f3 := by rw [HFD.out, if_neg (by decide)]; omega
      have e3 : RW = V2 := by rw [HWD.out, if_neg (by decide)]
      have H9a : Hid (RHoldAt sb b d RL (f + RF) a w4) := Lib.hid (by rw [e1, e2]; exact h')
      have H9b : Hid (SlAt w4 g' RW) := Lib.hid (by rw [e3]; exact hs)
      clear e1 e2 e3
      go_wp2_with (fail)
      go_meet
      case rel => exact ⟨g', cp', R2, rfl, rfl, by omega, Lib.hid (by rw [HOK.out]; simp), H9b, H9a, Lib.hid (u.keep B1.out (by simp; omega)), Lib.hid (u.keep B2.out (by simp; omega)), Lib.hid (UU.out.trans u)⟩
    · have e1 : RL = l2 := by rw [HLD.out, if_pos rfl]
      have e2 : f + RF = f + f1 + f2 := by rw [HFD.out, if_pos rfl]; omega
      have e3 : RW = V1 := by rw [HWD.out, if_pos rfl]
      have H9a : Hid (RHoldAt sb b d RL (f + RF) a w3) := Lib.hid (by rw [e1, e2]; exact H.out)
      have H9b : Hid (SlAt w3 g RW) := Lib.hid (by rw [e3]; exact SL.out)
      clear e1 e2 e3
      go_wp2_with (fail)
      go_meet
      case rel => exact ⟨g, cp, true, rfl, rfl, by omega, Lib.hid (by rw [HOK.out]; simp), H9b, H9a, B1, B2, UU⟩
  case rest =>
    clear H B1 B2 UU SL READ2 HOK HWD HLD HFD
    obtain ⟨g, c, G, rfl, rfl, hg, HRO, SL, H, B1, B2, UU⟩ := hcut
    go_upto_region 7 with (fail)
    generalize hW : World.alloc (World.alloc wc _) _ = w5
    have X1 : Hid (w5.heap[wc.heap.size]? = some (.cells (nums .u32 (List.replicate 32 0)) 27 (0, 0))) := Lib.hid (by rw [← hW]; exact heap_old (Go.heap_alloc_last wc _) _)
    have X2 : Hid (w5.heap[wc.heap.size + 1]? = some (.cells (nums .u32 (List.replicate 5 0)) 28 (0, 0))) := Lib.hid (by rw [← hW]; exact alloc_two wc _ _)
    have u5 : Upd [] wc w5 := by rw [← hW]; exact ((Upd.refl [] wc).alloc _).alloc _
    have hgx : g < wc.heap.size := SL.out.1
    have hxq : q + 1 < wc.heap.size := lt_of_block B2.out
    have hDx : sb < wc.heap.size ∧ b < wc.heap.size ∧ d < wc.heap.size := ⟨H.out.slt, H.out.row.blt, H.out.row.dlt⟩
    have htx : 0 < wc.heap.size := H.out.row.tz.lt
    replace SL := Lib.hid (SL.out.upd u5 (by simp))
    replace H := Lib.hid (H.out.upd0 u5)
    replace B1 := Lib.hid (u5.keep B1.out (by simp))
    replace B2 := Lib.hid (u5.keep B2.out (by simp))
    replace UU := Lib.hid (UU.out.trans (u5.mono (by simp)))
    clear hW
    have hx5 : wc.heap.size + 1 < w5.heap.size := lt_of_block X2.out
    have hwx : w.heap.size ≤ wc.heap.size := by have := HQ.out; omega
    generalize wc.heap.size = x at X1 X2 hgx hxq hDx htx hx5 hwx ⊢
    have ds : ((s : Int) == 2) = decide (s = 2) := by rw [Bool.eq_iff_iff]; simp only [beq_iff_eq, decide_eq_true_eq]; omega
    obtain ⟨S2, hS2⟩ : ∃ S2, S2 = decide (s = 2) := ⟨_, rfl⟩
    rw [← hS2] at ds
    have hro : RO = (G && !S2) := by rw [HRO.out, hS2]; cases G <;> by_cases e : s = 2 <;> simp [e]
    have HR2 := Lib.hid hro
    clear hS2 HRO u5 hro
    have hsn : sb < q ∧ b < q ∧ d < q ∧ 0 < q := by rw [HQ.out]; exact HD.out
    cases G
    · cases S2
      ·
        have hfin : Hid (RV = .tuple #[.int .u32 0, .agg (nums .u32 (List.replicate 32 0)), .agg (nums .u32 (List.replicate 5 0)), .int .i64 0, .bool false]) := Lib.hid (by rw [HVD.out, HR2.out]; rfl)
        have N1 : Hid (∀ z : Near [q, q + 1] w5, z.1.rangeAt x 0 (nums .u32 (List.replicate 32 0)).toList) := Lib.hid (fun z => row_range (z.2.keep X1.out (by simp; omega)))
        have N2 : Hid (∀ z : Near [q, q + 1] w5, z.1.rangeAt (x + 1) 0 (nums .u32 (List.replicate 5 0)).toList) := Lib.hid (fun z => row_range (z.2.keep X2.out (by simp; omega)))
        go_wp2_with (fail)
        refine wp_region_plan (fun z => ∃ x : Near [q, q + 1] w5, z = x.1) [([0, 1, 2], 3), ([], 4)] [5, 6] (by kernel_rfl) (by kernel_rfl) (by kernel_rfl) (by kernel_rfl) (fun _ d _ _ _ h => by cases d <;> exact h) ⟨⟨(w5).drew, (Upd.refl _ _).drew⟩, rfl⟩ ?_
        refine plan_next ?_
        simp only [opsAt, List.map_cons, List.map_nil, List.getElem?_toArray, List.getElem?_cons_zero, List.getElem?_cons_succ, Option.getD_some]
        go_simp
        repeat (go_big_quiet_step (fail))
        refine Q_load 27 (.tmp 11) rfl (by kernel_rfl) _ _ rfl (nums .u32 (List.replicate 32 0)) (by rintro _ ⟨z, rfl⟩; exact N1.out z) Tryd.underlying27 rfl 32 info_r32' rfl ?_
        go_simp
        repeat (go_big_quiet_step (fail))
        refine Q_load 28 (.tmp 12) rfl (by kernel_rfl) _ _ rfl (nums .u32 (List.replicate 5 0)) (by rintro _ ⟨z, rfl⟩; exact N2.out z) Tryd.underlying28 rfl 5 info_r5 rfl ?_
        go_simp
        repeat (go_big_quiet_step (fail))
        refine wpQuiet_nil ?_
        refine plan_one rfl ?_
        refine L_store_row 27 (.tmp 3) (.tmp 48) rfl (by kernel_rfl) q 0 rfl (nums .u32 (List.replicate 32 0)).toList 27 (show w5.drew.heap[q]? = _ from B1.out) (nums .u32 (List.replicate 32 0)) rfl 32 info_r32' rfl (Nat.le_refl _) (nums_one _ _) ?_
        intro w6 b6 u6 z6
        rw [spl_all rfl] at b6
        have C1 := Lib.hid b6
        have C2 := Lib.hid (u6.keep (show w5.drew.heap[q + 1]? = _ from B2.out) (by simp))
        have V6 : Hid (Upd [q, q + 1] w5 w6) := Lib.hid ((Upd.refl [q, q + 1] w5).drew.trans (u6.mono (by simp)))
        clear b6 u6 z6
        go_wp2_with fail
        refine plan_same ⟨⟨_, V6.out⟩, rfl⟩ ?_
        refine plan_next ?_
        simp only [opsAt, List.map_cons, List.map_nil, List.getElem?_toArray, List.getElem?_cons_zero, List.getElem?_cons_succ, Option.getD_some]
        repeat (go_big_quiet_step (fail))
        refine wpQuiet_nil ?_
        refine plan_one rfl ?_
        refine L_store_row 28 (.tmp 4) (.tmp 49) rfl (by kernel_rfl) (q + 1) 0 rfl (nums .u32 (List.replicate 5 0)).toList 28 C2.out (nums .u32 (List.replicate 5 0)) rfl 5 info_r5 rfl (Nat.le_refl _) (nums_one _ _) ?_
        intro w7 b7 u7 z7
        rw [spl_all rfl] at b7
        have C3 := Lib.hid b7
        have C4 := Lib.hid (u7.keep C1.out (by simp))
        have V7 := Lib.hid (V6.out.trans (u7.mono (by simp)))
        clear b7 u7 z7
        go_wp2_with fail
        refine plan_same ⟨⟨_, V7.out⟩, rfl⟩ ?_
        refine plan_last ?_
        simp only [opsAt, List.map_cons, List.map_nil, List.getElem?_toArray, List.getElem?_cons_zero, List.getElem?_cons_succ, Option.getD_some]
        go_simp
        repeat (go_big_quiet_step (fail))
        refine wpQuiet_nil ?_
        unfold planEnd
        go_wp2_with fail
        refine bodyPost_ret (results_load rfl _ w7 q (q + 1) 27 28 (nums .u32 (List.replicate 32 0)) (nums .u32 (List.replicate 5 0)) _ _ _ _ _ _ _ rfl rfl rfl rfl rfl C4.out C3.out Tryd.underlying27 rfl info_r32' Tryd.underlying28 rfl info_r5) rfl ?_
        exact ⟨by rw [hfin.out]; rfl, H.out.upd V7.out (by simp; omega) (by simp; omega) (by simp; omega) (by simp; omega), UU.out.then V7.out (fun x hx hlt => by have := HQ.out; simp at hx; omega)⟩
      ·
        have hfin : Hid (RV = .tuple #[.int .u32 0, .agg (nums .u32 (List.replicate 32 0)), .agg (nums .u32 (List.replicate 5 0)), .int .i64 0, .bool false]) := Lib.hid (by rw [HVD.out, HR2.out]; rfl)
        have N1 : Hid (∀ z : Near [q, q + 1] w5, z.1.rangeAt x 0 (nums .u32 (List.replicate 32 0)).toList) := Lib.hid (fun z => row_range (z.2.keep X1.out (by simp; omega)))
        have N2 : Hid (∀ z : Near [q, q + 1] w5, z.1.rangeAt (x + 1) 0 (nums .u32 (List.replicate 5 0)).toList) := Lib.hid (fun z => row_range (z.2.keep X2.out (by simp; omega)))
        go_wp2_with (fail)
        refine wp_region_plan (fun z => ∃ x : Near [q, q + 1] w5, z = x.1) [([0, 1, 2], 3), ([], 4)] [5, 6] (by kernel_rfl) (by kernel_rfl) (by kernel_rfl) (by kernel_rfl) (fun _ d _ _ _ h => by cases d <;> exact h) ⟨⟨(w5).drew, (Upd.refl _ _).drew⟩, rfl⟩ ?_
        refine plan_next ?_
        simp only [opsAt, List.map_cons, List.map_nil, List.getElem?_toArray, List.getElem?_cons_zero, List.getElem?_cons_succ, Option.getD_some]
        go_simp
        repeat (go_big_quiet_step (fail))
        refine Q_load 27 (.tmp 11) rfl (by kernel_rfl) _ _ rfl (nums .u32 (List.replicate 32 0)) (by rintro _ ⟨z, rfl⟩; exact N1.out z) Tryd.underlying27 rfl 32 info_r32' rfl ?_
        go_simp
        repeat (go_big_quiet_step (fail))
        refine Q_load 28 (.tmp 12) rfl (by kernel_rfl) _ _ rfl (nums .u32 (List.replicate 5 0)) (by rintro _ ⟨z, rfl⟩; exact N2.out z) Tryd.underlying28 rfl 5 info_r5 rfl ?_
        go_simp
        repeat (go_big_quiet_step (fail))
        refine wpQuiet_nil ?_
        refine plan_one rfl ?_
        refine L_store_row 27 (.tmp 3) (.tmp 48) rfl (by kernel_rfl) q 0 rfl (nums .u32 (List.replicate 32 0)).toList 27 (show w5.drew.heap[q]? = _ from B1.out) (nums .u32 (List.replicate 32 0)) rfl 32 info_r32' rfl (Nat.le_refl _) (nums_one _ _) ?_
        intro w6 b6 u6 z6
        rw [spl_all rfl] at b6
        have C1 := Lib.hid b6
        have C2 := Lib.hid (u6.keep (show w5.drew.heap[q + 1]? = _ from B2.out) (by simp))
        have V6 : Hid (Upd [q, q + 1] w5 w6) := Lib.hid ((Upd.refl [q, q + 1] w5).drew.trans (u6.mono (by simp)))
        clear b6 u6 z6
        go_wp2_with fail
        refine plan_same ⟨⟨_, V6.out⟩, rfl⟩ ?_
        refine plan_next ?_
        simp only [opsAt, List.map_cons, List.map_nil, List.getElem?_toArray, List.getElem?_cons_zero, List.getElem?_cons_succ, Option.getD_some]
        repeat (go_big_quiet_step (fail))
        refine wpQuiet_nil ?_
        refine plan_one rfl ?_
        refine L_store_row 28 (.tmp 4) (.tmp 49) rfl (by kernel_rfl) (q + 1) 0 rfl (nums .u32 (List.replicate 5 0)).toList 28 C2.out (nums .u32 (List.replicate 5 0)) rfl 5 info_r5 rfl (Nat.le_refl _) (nums_one _ _) ?_
        intro w7 b7 u7 z7
        rw [spl_all rfl] at b7
        have C3 := Lib.hid b7
        have C4 := Lib.hid (u7.keep C1.out (by simp))
        have V7 := Lib.hid (V6.out.trans (u7.mono (by simp)))
        clear b7 u7 z7
        go_wp2_with fail
        refine plan_same ⟨⟨_, V7.out⟩, rfl⟩ ?_
        refine plan_last ?_
        simp only [opsAt, List.map_cons, List.map_nil, List.getElem?_toArray, List.getElem?_cons_zero, List.getElem?_cons_succ, Option.getD_some]
        go_simp
        repeat (go_big_quiet_step (fail))
        refine wpQuiet_nil ?_
        unfold planEnd
        go_wp2_with fail
        refine bodyPost_ret (results_load rfl _ w7 q (q + 1) 27 28 (nums .u32 (List.replicate 32 0)) (nums .u32 (List.replicate 5 0)) _ _ _ _ _ _ _ rfl rfl rfl rfl rfl C4.out C3.out Tryd.underlying27 rfl info_r32' Tryd.underlying28 rfl info_r5) rfl ?_
        exact ⟨by rw [hfin.out]; rfl, H.out.upd V7.out (by simp; omega) (by simp; omega) (by simp; omega) (by simp; omega), UU.out.then V7.out (fun x hx hlt => by have := HQ.out; simp at hx; omega)⟩
    · cases S2
      · have hfin : Hid (RV = .tuple #[.int .u32 ((nth RW 0 : Nat) : Int), .agg (nums .u32 (0 :: (RW.drop 1).take 31)), .agg (nums .u32 ((RW.drop 32).take 5)), .int .i64 ((nth RW 37 : Nat) : Int), .bool true]) := Lib.hid (by rw [HVD.out, HR2.out]; rfl)
        have HGX := Lib.hid (show g ≠ x ∧ g ≠ x + 1 by omega)
        go_wp2_with (fail)
        go_loopg [13] 31 (fun gg v13 wl => ∃ (i : Nat) (O : List Nat), v13 = .int .i64 (i : Int) ∧ 1 ≤ i ∧ i ≤ 32 ∧ gg = 32 - i ∧ Hid (O.length = 32 ∧ ∀ j, j < 32 → nth O j = if 0 < j ∧ j < i then nth RW j else 0) ∧ Hid (wl.heap[x]? = some (.cells (nums .u32 O) 27 (0, 0))) ∧ Hid (Upd [x] w5 wl))
        case atStart => exact ⟨1, List.replicate 32 0, rfl, by omega, by omega, rfl, Lib.hid ⟨rfl, fun j hj => by rw [if_neg (by omega), nth_rep]⟩, X1, Lib.hid (Upd.refl _ _)⟩
        case round =>
          obtain ⟨i, O, rfl, hi1, hi2, hgg, HO, BX, V⟩ := hrel
          rcases Nat.lt_or_ge i 32 with hlt | hge
          · have di : decide ((i : Int) < 32) = true := decide_eq_true (by omega)
            have cv := (SL.out.upd V.out (by have := HGX.out; simp; omega)).2 i (by rw [HWL.out]; omega)
            have hxl : x < wr.heap.size := lt_of_block BX.out
            have cx : wr.cell? ⟨x, i, none⟩ = some (.int .u32 ((nth O i : Nat) : Int)) := by rw [cells_of BX.out]; exact nums_nth .u32 O i (by rw [HO.out.1]; exact hlt)
            have fx : wr.frozen? ⟨x, i, none⟩ = false := free_of BX.out i
            have hset : (nums .u32 O).setIfInBounds i (.int .u32 ((nth RW i : Nat) : Int)) = nums .u32 (O.set i (nth RW i)) := nums_set .u32 O i _
            have hO2 : Hid ((O.set i (nth RW i)).length = 32 ∧ ∀ j, j < 32 → nth (O.set i (nth RW i)) j = if 0 < j ∧ j < i + 1 then nth RW j else 0) := Lib.hid ⟨by rw [List.length_set, HO.out.1], fun j hj => by
              by_cases e : i = j
              · subst e
                rw [nth_set_eq (by rw [HO.out.1]; exact hlt), if_pos ⟨hi1, by omega⟩]
              · rw [nth_set_ne e, HO.out.2 j hj]
                by_cases e2 : 0 < j ∧ j < i
                · rw [if_pos e2, if_pos ⟨e2.1, by omega⟩]
                · rw [if_neg e2, if_neg (by omega)]⟩
            generalize nth RW i = v at cv hset hO2
            generalize O.set i v = O2 at hset hO2
            have HSET := Lib.hid hset
            clear hset
            go_wp2_with (fail)
            go_roundg (32 - (i + 1))
            case measure => omega
            case rel => exact ⟨i + 1, O2, by go_num, by omega, by omega, rfl, hO2, Lib.hid (by rw [heap_setCell_eq BX.out, HSET.out]), Lib.hid (V.out.setCell (p := ⟨x, i, none⟩) (by simp) _)⟩
          · obtain rfl : i = 32 := by omega
            have hO : O = 0 :: (RW.drop 1).take 31 := list_extS (by rw [HO.out.1]; simp [HWL.out]) fun j hj => by
              have hj2 : j < 32 := by rw [← HO.out.1]; exact hj
              rw [HO.out.2 j hj2]
              rcases Nat.eq_zero_or_pos j with rfl | h0
              · rfl
              · obtain ⟨m, rfl⟩ : ∃ m, j = m + 1 := ⟨j - 1, by omega⟩
                rw [if_pos ⟨h0, hj2⟩, nth_cons, nth_eq RW (m + 1) (by rw [HWL.out]; omega), nth_eq _ m (by simp [HWL.out]; omega)]
                simp [Nat.add_comm]
            have HOX := Lib.hid hO
            have OL := Lib.hid HO.out.1
            replace X2 := Lib.hid (V.out.keep X2.out (by simp))
            replace B1 := Lib.hid (V.out.keep B1.out (by simp; omega))
            replace B2 := Lib.hid (V.out.keep B2.out (by simp; omega))
            replace SL := Lib.hid (SL.out.upd V.out (by have := HGX.out; simp; omega))
            replace H := Lib.hid (H.out.upd V.out (by simp <;> omega) (by simp <;> omega) (by simp <;> omega) (by simp <;> omega))
            replace UU := Lib.hid (UU.out.then V.out (fun y hy hlt => by simp at hy; omega))
            clear hO HO V X1
            obtain ⟨w6, rfl⟩ : ∃ w6, w6 = wr := ⟨_, rfl⟩
            go_wp2_with (fail)
            go_loopg [14, 60] 5 (fun gg v14 v60 wl => ∃ (i : Nat) (P : List Nat), v60 = .int .i64 (i : Int) ∧ i ≤ 5 ∧ gg = 5 - i ∧ Hid (P.length = 5 ∧ ∀ j, j < 5 → nth P j = if j < i then nth RW (32 + j) else 0) ∧ Hid (wl.heap[x + 1]? = some (.cells (nums .u32 P) 28 (0, 0))) ∧ Hid (Upd [x + 1] w6 wl))
            case atStart => exact ⟨0, List.replicate 5 0, rfl, by omega, rfl, Lib.hid ⟨rfl, fun j hj => by rw [if_neg (by omega), nth_rep]⟩, X2, Lib.hid (Upd.refl _ _)⟩
            case round =>
              obtain ⟨i, P, rfl, hi2, hgg, HP, BY, V⟩ := hrel
              rcases Nat.lt_or_ge i 5 with hlt | hge
              · have di : decide ((i : Int) < 5) = true := decide_eq_true (by omega)
                have cv := (SL.out.upd V.out (by have := HGX.out; simp; omega)).2 (32 + i) (by rw [HWL.out]; omega)
                have cx : wr.cell? ⟨x + 1, i, none⟩ = some (.int .u32 ((nth P i : Nat) : Int)) := by rw [cells_of BY.out]; exact nums_nth .u32 P i (by rw [HP.out.1]; exact hlt)
                have fx : wr.frozen? ⟨x + 1, i, none⟩ = false := free_of BY.out i
                have hset : (nums .u32 P).setIfInBounds i (.int .u32 ((nth RW (32 + i) : Nat) : Int)) = nums .u32 (P.set i (nth RW (32 + i))) := nums_set .u32 P i _
                have hP2 : Hid ((P.set i (nth RW (32 + i))).length = 5 ∧ ∀ j, j < 5 → nth (P.set i (nth RW (32 + i))) j = if j < i + 1 then nth RW (32 + j) else 0) := Lib.hid ⟨by rw [List.length_set, HP.out.1], fun j hj => by
                  by_cases e : i = j
                  · subst e
                    rw [nth_set_eq (by rw [HP.out.1]; exact hlt), if_pos (by omega)]
                  · rw [nth_set_ne e, HP.out.2 j hj]
                    by_cases e2 : j < i
                    · rw [if_pos e2, if_pos (by omega)]
                    · rw [if_neg e2, if_neg (by omega)]⟩
                generalize nth RW (32 + i) = v at cv hset hP2
                generalize P.set i v = P2 at hset hP2
                have HSET := Lib.hid hset
                clear hset
                go_wp2_with (fail)
                go_roundg (5 - (i + 1))
                case measure => omega
                case rel => exact ⟨i + 1, P2, by go_num, by omega, rfl, hP2, Lib.hid (by rw [heap_setCell_eq BY.out, HSET.out]), Lib.hid (V.out.setCell (p := ⟨x + 1, i, none⟩) (by simp) _)⟩
              · obtain rfl : i = 5 := by omega
                have hP : P = (RW.drop 32).take 5 := list_extS (by rw [HP.out.1]; simp [HWL.out]) fun j hj => by
                  have hj2 : j < 5 := by rw [← HP.out.1]; exact hj
                  rw [HP.out.2 j hj2, if_pos hj2, nth_eq RW (32 + j) (by rw [HWL.out]; omega), nth_eq _ j (by simp [HWL.out]; omega)]
                  simp
                have HPX := Lib.hid hP
                have PL := Lib.hid HP.out.1
                replace BX := Lib.hid (V.out.keep BX.out (by simp))
                replace B1 := Lib.hid (V.out.keep B1.out (by simp; omega))
                replace B2 := Lib.hid (V.out.keep B2.out (by simp; omega))
                replace SL := Lib.hid (SL.out.upd V.out (by have := HGX.out; simp; omega))
                replace H := Lib.hid (H.out.upd V.out (by simp <;> omega) (by simp <;> omega) (by simp <;> omega) (by simp <;> omega))
                replace UU := Lib.hid (UU.out.then V.out (fun y hy hlt => by simp at hy; omega))
                clear hP HP V X2
                have hfin2 : Hid (RV = .tuple #[.int .u32 ((nth RW 0 : Nat) : Int), .agg (nums .u32 O), .agg (nums .u32 P), .int .i64 ((nth RW 37 : Nat) : Int), .bool true]) := Lib.hid (by rw [hfin.out, HOX.out, HPX.out])
                have hgs := SL.out.1
                have c0 := SL.out.2 0 (by rw [HWL.out]; decide)
                have c37 := SL.out.2 37 (by rw [HWL.out]; decide)
                have hgq : g ≠ q ∧ g ≠ q + 1 := by omega
                generalize nth RW 0 = v0 at c0 hfin2
                have hw37 : RowKit.wrap64 ((nth RW 37 : Nat) : Int) = ((nth RW 37 : Nat) : Int) := by
                  have := HWB.out 37
                  unfold RowKit.wrap64; omega
                generalize nth RW 37 = v37 at c37 hfin2 hw37
                have n0 : ∀ z : Near [q, q + 1] wr, z.1.cell? ⟨g, 0, none⟩ = some (.int .u32 (v0 : Int)) := fun z => by rw [← c0]; exact World.cell?_of_block (z.2.block g hgs (by simp; omega))
                have n37 : ∀ z : Near [q, q + 1] wr, z.1.cell? ⟨g, 37, none⟩ = some (.int .u32 (v37 : Int)) := fun z => by rw [← c37]; exact World.cell?_of_block (z.2.block g hgs (by simp; omega))
                have N1 : Hid (∀ z : Near [q, q + 1] wr, z.1.rangeAt x 0 (nums .u32 O).toList) := Lib.hid (fun z => row_range (z.2.keep BX.out (by simp; omega)))
                have N2 : Hid (∀ z : Near [q, q + 1] wr, z.1.rangeAt (x + 1) 0 (nums .u32 P).toList) := Lib.hid (fun z => row_range (z.2.keep BY.out (by simp; omega)))
                clear hfin HOX HPX c0 c37
                go_wp2_with (fail)
                refine wp_region_plan (fun z => ∃ x : Near [q, q + 1] wr, z = x.1) [([0, 1, 2, 3, 4, 5, 6, 7, 8, 9], 10), ([], 11)] [12, 13] (by kernel_rfl) (by kernel_rfl) (by kernel_rfl) (by kernel_rfl) (fun _ d _ _ _ h => by cases d <;> exact h) ⟨⟨(wr).drew, (Upd.refl _ _).drew⟩, rfl⟩ ?_
                refine plan_next ?_
                simp only [opsAt, List.map_cons, List.map_nil, List.getElem?_toArray, List.getElem?_cons_zero, List.getElem?_cons_succ, Option.getD_some]
                go_simp
                repeat (go_big_quiet_step (fail))
                refine Q_load 27 (.tmp 11) rfl (by kernel_rfl) _ _ rfl (nums .u32 O) (by rintro _ ⟨z, rfl⟩; exact N1.out z) Tryd.underlying27 rfl 32 info_r32' (by rw [nums_size]; exact OL.out) ?_
                go_simp
                repeat (go_big_quiet_step (fail))
                refine Q_load 28 (.tmp 12) rfl (by kernel_rfl) _ _ rfl (nums .u32 P) (by rintro _ ⟨z, rfl⟩; exact N2.out z) Tryd.underlying28 rfl 5 info_r5 (by rw [nums_size]; exact PL.out) ?_
                go_simp
                repeat (go_big_quiet_step (fail))
                refine wpQuiet_nil ?_
                refine plan_one rfl ?_
                refine L_store_row 27 (.tmp 3) (.tmp 74) rfl (by kernel_rfl) q 0 rfl (nums .u32 (List.replicate 32 0)).toList 27 (show wr.drew.heap[q]? = _ from B1.out) (nums .u32 O) rfl 32 info_r32' (by rw [nums_size]; exact OL.out) (Nat.le_refl _) (nums_one _ _) ?_
                intro w7 b6 u6 z6
                rw [spl_all (by rw [Array.length_toList, Array.length_toList, nums_size, OL.out]; rfl)] at b6
                have C1 := Lib.hid b6
                have C2 := Lib.hid (u6.keep (show wr.drew.heap[q + 1]? = _ from B2.out) (by simp))
                have V6 : Hid (Upd [q, q + 1] wr w7) := Lib.hid ((Upd.refl [q, q + 1] wr).drew.trans (u6.mono (by simp)))
                clear b6 u6 z6
                go_wp2_with fail
                refine plan_same ⟨⟨_, V6.out⟩, rfl⟩ ?_
                refine plan_next ?_
                simp only [opsAt, List.map_cons, List.map_nil, List.getElem?_toArray, List.getElem?_cons_zero, List.getElem?_cons_succ, Option.getD_some]
                repeat (go_big_quiet_step (fail))
                refine wpQuiet_nil ?_
                refine plan_one rfl ?_
                refine L_store_row 28 (.tmp 4) (.tmp 75) rfl (by kernel_rfl) (q + 1) 0 rfl (nums .u32 (List.replicate 5 0)).toList 28 C2.out (nums .u32 P) rfl 5 info_r5 (by rw [nums_size]; exact PL.out) (Nat.le_refl _) (nums_one _ _) ?_
                intro w8 b7 u7 z7
                rw [spl_all (by rw [Array.length_toList, Array.length_toList, nums_size, PL.out]; rfl)] at b7
                have C3 := Lib.hid b7
                have C4 := Lib.hid (u7.keep C1.out (by simp))
                have V7 := Lib.hid (V6.out.trans (u7.mono (by simp)))
                clear b7 u7 z7
                go_wp2_with fail
                refine plan_same ⟨⟨_, V7.out⟩, rfl⟩ ?_
                refine plan_last ?_
                simp only [opsAt, List.map_cons, List.map_nil, List.getElem?_toArray, List.getElem?_cons_zero, List.getElem?_cons_succ, Option.getD_some]
                go_simp
                repeat (go_big_quiet_step (fail))
                refine wpQuiet_nil ?_
                unfold planEnd
                go_wp2_with fail
                refine bodyPost_ret (results_load rfl _ w8 q (q + 1) 27 28 (nums .u32 O) (nums .u32 P) _ _ _ _ _ _ _ rfl rfl rfl rfl rfl C4.out C3.out Tryd.underlying27 rfl (by rw [nums_size, OL.out]; exact info_r32') Tryd.underlying28 rfl (by rw [nums_size, PL.out]; exact info_r5)) rfl ?_
                exact ⟨by rw [hfin2.out]; rfl, H.out.upd V7.out (by simp; omega) (by simp; omega) (by simp; omega) (by simp; omega), UU.out.then V7.out (fun y hy hlt => by have := HQ.out; simp at hy; omega)⟩
      ·
        have hfin : Hid (RV = .tuple #[.int .u32 0, .agg (nums .u32 (List.replicate 32 0)), .agg (nums .u32 (List.replicate 5 0)), .int .i64 0, .bool false]) := Lib.hid (by rw [HVD.out, HR2.out]; rfl)
        have N1 : Hid (∀ z : Near [q, q + 1] w5, z.1.rangeAt x 0 (nums .u32 (List.replicate 32 0)).toList) := Lib.hid (fun z => row_range (z.2.keep X1.out (by simp; omega)))
        have N2 : Hid (∀ z : Near [q, q + 1] w5, z.1.rangeAt (x + 1) 0 (nums .u32 (List.replicate 5 0)).toList) := Lib.hid (fun z => row_range (z.2.keep X2.out (by simp; omega)))
        go_wp2_with (fail)
        refine wp_region_plan (fun z => ∃ x : Near [q, q + 1] w5, z = x.1) [([0, 1, 2], 3), ([], 4)] [5, 6] (by kernel_rfl) (by kernel_rfl) (by kernel_rfl) (by kernel_rfl) (fun _ d _ _ _ h => by cases d <;> exact h) ⟨⟨(w5).drew, (Upd.refl _ _).drew⟩, rfl⟩ ?_
        refine plan_next ?_
        simp only [opsAt, List.map_cons, List.map_nil, List.getElem?_toArray, List.getElem?_cons_zero, List.getElem?_cons_succ, Option.getD_some]
        go_simp
        repeat (go_big_quiet_step (fail))
        refine Q_load 27 (.tmp 11) rfl (by kernel_rfl) _ _ rfl (nums .u32 (List.replicate 32 0)) (by rintro _ ⟨z, rfl⟩; exact N1.out z) Tryd.underlying27 rfl 32 info_r32' rfl ?_
        go_simp
        repeat (go_big_quiet_step (fail))
        refine Q_load 28 (.tmp 12) rfl (by kernel_rfl) _ _ rfl (nums .u32 (List.replicate 5 0)) (by rintro _ ⟨z, rfl⟩; exact N2.out z) Tryd.underlying28 rfl 5 info_r5 rfl ?_
        go_simp
        repeat (go_big_quiet_step (fail))
        refine wpQuiet_nil ?_
        refine plan_one rfl ?_
        refine L_store_row 27 (.tmp 3) (.tmp 48) rfl (by kernel_rfl) q 0 rfl (nums .u32 (List.replicate 32 0)).toList 27 (show w5.drew.heap[q]? = _ from B1.out) (nums .u32 (List.replicate 32 0)) rfl 32 info_r32' rfl (Nat.le_refl _) (nums_one _ _) ?_
        intro w6 b6 u6 z6
        rw [spl_all rfl] at b6
        have C1 := Lib.hid b6
        have C2 := Lib.hid (u6.keep (show w5.drew.heap[q + 1]? = _ from B2.out) (by simp))
        have V6 : Hid (Upd [q, q + 1] w5 w6) := Lib.hid ((Upd.refl [q, q + 1] w5).drew.trans (u6.mono (by simp)))
        clear b6 u6 z6
        go_wp2_with fail
        refine plan_same ⟨⟨_, V6.out⟩, rfl⟩ ?_
        refine plan_next ?_
        simp only [opsAt, List.map_cons, List.map_nil, List.getElem?_toArray, List.getElem?_cons_zero, List.getElem?_cons_succ, Option.getD_some]
        repeat (go_big_quiet_step (fail))
        refine wpQuiet_nil ?_
        refine plan_one rfl ?_
        refine L_store_row 28 (.tmp 4) (.tmp 49) rfl (by kernel_rfl) (q + 1) 0 rfl (nums .u32 (List.replicate 5 0)).toList 28 C2.out (nums .u32 (List.replicate 5 0)) rfl 5 info_r5 rfl (Nat.le_refl _) (nums_one _ _) ?_
        intro w7 b7 u7 z7
        rw [spl_all rfl] at b7
        have C3 := Lib.hid b7
        have C4 := Lib.hid (u7.keep C1.out (by simp))
        have V7 := Lib.hid (V6.out.trans (u7.mono (by simp)))
        clear b7 u7 z7
        go_wp2_with fail
        refine plan_same ⟨⟨_, V7.out⟩, rfl⟩ ?_
        refine plan_last ?_
        simp only [opsAt, List.map_cons, List.map_nil, List.getElem?_toArray, List.getElem?_cons_zero, List.getElem?_cons_succ, Option.getD_some]
        go_simp
        repeat (go_big_quiet_step (fail))
        refine wpQuiet_nil ?_
        unfold planEnd
        go_wp2_with fail
        refine bodyPost_ret (results_load rfl _ w7 q (q + 1) 27 28 (nums .u32 (List.replicate 32 0)) (nums .u32 (List.replicate 5 0)) _ _ _ _ _ _ _ rfl rfl rfl rfl rfl C4.out C3.out Tryd.underlying27 rfl info_r32' Tryd.underlying28 rfl info_r5) rfl ?_
        exact ⟨by rw [hfin.out]; rfl, H.out.upd V7.out (by simp; omega) (by simp; omega) (by simp; omega) (by simp; omega), UU.out.then V7.out (fun x hx hlt => by have := HQ.out; simp at hx; omega)⟩
end Go.Proofs.YthoaofbhppdfoaaDoor
