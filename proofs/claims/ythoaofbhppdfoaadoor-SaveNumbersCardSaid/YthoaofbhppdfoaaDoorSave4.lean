/- Checkpoints, in memory: Load. -/
import Derived.Test.YthoaofbhppdfoaaDoorSave3
import Derived.Laws.CopyOwn
namespace Go.Proofs.YthoaofbhppdfoaaDoor
open Go.RowKit Go.Dio
set_option linter.unusedSimpArgs false
set_option linter.unusedVariables false

/-- What Load hands back. -/
def loadV (l : List Nat) : Value :=
  if loadOk l then .tuple #[.int .u32 ((nth (loadW l) 0 : Nat) : Int), .agg (nums .u32 (0 :: ((loadW l).drop 1).take 31)), .agg (nums .u32 (((loadW l).drop 32).take 5)), .int .i64 ((nth (loadW l) 37 : Nat) : Int), .bool true]
  else .tuple #[.int .u32 0, .agg (nums .u32 (List.replicate 32 0)), .agg (nums .u32 (List.replicate 5 0)), .int .i64 0, .bool false]
theorem results_load {P : Program} {fn : Func} {p0 p1 p2 p3 p4 : Tmp} {t1 t2 : TypeId} (h : fn.results = #[.tmp p0, .cell p1 t1, .cell p2 t2, .tmp p3, .tmp p4]) (tmps : Array Value) (w : World) (g1 g2 : Nat) (ty1 ty2 : TypeId) (c1 c2 : Array Value) (f1 f2 : Nat × Nat) (d1 d2 : TypeDesc) (v0 v3 v4 : Value)
    (h0 : tmps.getD p0 undef = v0) (h1 : tmps.getD p1 undef = .pointer (some ⟨g1, 0, none⟩)) (h2 : tmps.getD p2 undef = .pointer (some ⟨g2, 0, none⟩)) (h3 : tmps.getD p3 undef = v3) (h4 : tmps.getD p4 undef = v4)
    (b1 : w.heap[g1]? = some (.cells c1 ty1 f1)) (b2 : w.heap[g2]? = some (.cells c2 ty2 f2))
    (u1 : P.underlying t1 = some d1) (hd1 : (match d1 with | .struct _ | .array _ _ => true | _ => false) = true) (i1 : (P.info? t1).map (·.size) = some c1.size)
    (u2 : P.underlying t2 = some d2) (hd2 : (match d2 with | .struct _ | .array _ _ => true | _ => false) = true) (i2 : (P.info? t2).map (·.size) = some c2.size) :
    (results fn tmps).run P w = .ok (.tuple #[v0, .agg c1, .agg c2, v3, v4]) w := by
  have h0' : tmps[p0]?.getD undef = v0 := by simpa using h0
  have h1' : tmps[p1]?.getD undef = .pointer (some ⟨g1, 0, none⟩) := by simpa using h1
  have h2' : tmps[p2]?.getD undef = .pointer (some ⟨g2, 0, none⟩) := by simpa using h2
  have h3' : tmps[p3]?.getD undef = v3 := by simpa using h3
  have h4' : tmps[p4]?.getD undef = v4 := by simpa using h4
  simp [results, h, h0', h1', h2', h3', h4', asAddr, run_loadVar_row w g1 ty1 t1 c1 f1 d1 b1 u1 hd1 i1, run_loadVar_row w g2 ty2 t2 c2 f2 d2 b2 u2 hd2 i2]

theorem row_mid {w : World} {b : Nat} {k : IntKind} {V : List Nat} {t : TypeId} {fr : Nat × Nat} (h : w.heap[b]? = some (.cells (nums k V) t fr)) (o n : Nat) : w.rangeAt b o (nums k ((V.drop o).take n)).toList := fun j v hv => by
  rw [cell_of_row w b (o + j) _ t fr h]
  simp only [nums, List.getElem?_map, List.getElem?_take, List.getElem?_drop, List.getElem?_toArray] at hv ⊢
  split at hv
  · exact hv
  · simp at hv
theorem upd_below_last {w w' : World} {x : Nat} (hb : Below x w w') (hs : w.heap.size ≤ x + 1) : Upd [x] w w' :=
  ⟨hb.os, hb.tape, hb.output, hb.size, fun k hk hx => hb.block k (by simp at hx; omega)⟩
theorem splice_z {X : List Nat} (h : X.length = 31) : (splice (nums .u32 (List.replicate 32 0)).toList 1 (nums .u32 X).toList).toArray = nums .u32 (0 :: X) := by
  have e : (nums .u32 X).toList.length = 31 := by rw [Array.length_toList, nums_size, h]
  simp only [splice, e]
  have e1 : (nums .u32 (List.replicate 32 0)).toList.take 1 = [.int .u32 0] := rfl
  have e2 : (nums .u32 (List.replicate 32 0)).toList.drop (1 + 31) = [] := rfl
  rw [e1, e2]
  simp [nums]
theorem array_at (r : Nat) (w : World) : (Instr.arrayAt 28 (.slice (some ⟨r, 32, none⟩) 5 7)).run Tryd.prog w = .ok (.pointer (some ⟨r, 32, none⟩)) w := by
  simp [Instr.arrayAt, run_underlying Tryd.underlying28]
set_option maxRecDepth 20000 in
set_option maxHeartbeats 2000000 in
theorem SLoad_calls (T : TypeId) (sb b d : Nat) (l : List Nat) (f a : Nat) (w : World) (h : HoldAt T sb b d l f a w) (hl : l.length = 79) (hf : f < 9223372036854760000) :
    Calls Tryd.prog 9 #[.pointer (some ⟨sb, 0, none⟩)] w fun e w' => e = .returned (loadV l) ∧ HoldAt T sb b d (loadL l) (f + loadF l) a w' ∧ Upd [b, d] w w' := by
  have hy : peekL l 78 = dec (nth l 78) := by rw [show (78 : Int) = ((78 : Nat) : Int) from rfl, peekL, inn_of (by omega) (by omega)]; rfl
  have l1l : (getL l 78).length = 79 := by rw [getL_len, hl]
  have hg1 : getF l 78 ≤ 1 := by unfold getF; split <;> omega
  have G : ∀ w1, HoldAt T sb b d l f a w1 → Calls Tryd.prog 22 #[.pointer (some ⟨b, 0, none⟩), .int .i64 78] w1 fun e w' => e = .returned (.tuple #[.int .u32 ((dec (nth l 78)).1 : Int), .int .i64 ((dec (nth l 78)).2 : Int)]) ∧ HoldAt T sb b d (getL l 78) (f + getF l 78) a w' ∧ Upd [b, d] w1 w' := fun w1 h => by
    rw [← hy]; exact (Get_calls _ b d l f 78 w1 h.row (by omega)).mono fun e w' ⟨he, hr, hu⟩ => ⟨he, h.step hr hu (by simp), hu⟩
  have hylt := dec_lt32 (nth l 78)
  have hm := and_one32 _ hylt
  have H := Lib.hid h
  have hsq := h.slt
  have hbq := h.row.blt
  have hdq := h.row.dlt
  have htz := h.row.tz.lt
  obtain ⟨RV, hRV⟩ : ∃ R, R = loadV l := ⟨_, rfl⟩
  have eV := hRV
  rw [← hRV]
  have eL : loadL l = loadL l := rfl
  obtain ⟨RL, hRL⟩ : ∃ R, R = loadL l := ⟨_, rfl⟩
  obtain ⟨RF, hRF⟩ : ∃ R, R = f + loadF l := ⟨_, rfl⟩
  rw [← hRL, ← hRF]
  unfold loadV loadOk loadW at hRV
  unfold loadL at hRL
  unfold loadF at hRF
  have hK : latP l = (dec (nth l 78)).1 % 2 := rfl
  rw [hK] at hRV hRL hRF
  generalize (dec (nth l 78)).1 = y at G hm hylt hRV hRL hRF
  generalize (dec (nth l 78)).2 = s at G hRV
  have hm2 : y % 2 < 2 := Nat.mod_lt _ (by decide)
  generalize y % 2 = m at hm hRV hRL hRF hm2
  generalize getL l 78 = l1 at G hRV hRL hRF l1l
  obtain ⟨f1, hf1⟩ : ∃ f1, f1 = f + getF l 78 := ⟨_, rfl⟩
  rw [← hf1] at G
  have hF2 : RF = f1 + (if rightP l1 m then getsF l1 (39 * m) 39 else getsF l1 (39 * m) 39 + getsF (gets l1 (39 * m) 39) (39 * (1 - m)) 39) := by rw [hRF, hf1, Nat.add_assoc]
  replace hF2 : RF = if rightP l1 m then f1 + getsF l1 (39 * m) 39 else f1 + getsF l1 (39 * m) 39 + getsF (gets l1 (39 * m) 39) (39 * (1 - m)) 39 := by rw [hF2]; split <;> omega
  have hf1b : f1 < 9223372036854765000 := by omega
  obtain ⟨m', hm'⟩ : ∃ m', m' = 1 - m := ⟨_, rfl⟩
  rw [← hm'] at hRV hRL hF2
  have hm1 : 1 - (m : Int) = (m' : Int) := by omega
  have hm3 : m' ≤ 1 := by omega
  clear hm'
  clear hRF hf1 hg1 hl hy eV eL h
  have G' := Lib.hid G
  have W1 := Lib.hid fun w1 (h : HoldAt T sb b d l1 f1 a w1) => SWords_calls T sb b d l1 f1 a m w1 h l1l (by omega) (by omega)
  have l2l : (gets l1 (39 * m) 39).length = 79 := by rw [gets_len, l1l]
  have gF := getsF_le l1 (39 * m) 39
  have W2 := Lib.hid fun w1 (h : HoldAt T sb b d (gets l1 (39 * m) 39) (f1 + getsF l1 (39 * m) 39) a w1) => SWords_calls T sb b d _ _ a m' w1 h l2l (by omega) (by omega)
  have v1l := valsL_len l1 (39 * m) 39
  have w1l := valsL_lt l1 (39 * m) 39
  generalize valsL l1 (39 * m) 39 = V1 at W1 hRV v1l w1l
  generalize rightP l1 m = R1 at W1 hRV hRL hF2
  generalize gets l1 (39 * m) 39 = l2 at W1 W2 hRV hRL hF2
  generalize f1 + getsF l1 (39 * m) 39 = f2 at W1 W2 hF2
  have v2l := valsL_len l2 (39 * m') 39
  have w2l := valsL_lt l2 (39 * m') 39
  generalize valsL l2 (39 * m') 39 = V2 at W2 hRV v2l w2l
  generalize rightP l2 m' = R2 at W2 hRV
  have HV := Lib.hid hRV
  have HL := Lib.hid hRL
  have HF := Lib.hid hF2
  have c0 : (w).cell? ⟨sb, 0, none⟩ = some (.pointer (some ⟨b, 0, none⟩)) := by rw [cells_of H.out.cell]; rfl
  have hv1 := Lib.hid v1l
  have hv2 := Lib.hid v2l
  have hw1 := Lib.hid w1l
  have hw2 := Lib.hid w2l
  clear G hRV hRL hF2 gF l2l v1l v2l l1l w1l w2l
  obtain ⟨q, hq⟩ : ∃ q, q = w.heap.size := ⟨_, rfl⟩
  have HQ := Lib.hid hq
  clear hq
  go_enter Tryd.func9, Tryd.ntmps9
  go_wp2_with (fail)
  rw [← HQ.out] at hsq hbq hdq htz ⊢
  refine (G'.out _ (H.out.upd0 (((Upd.refl _ _).alloc _).alloc _))).mono ?_
  rintro e w1 ⟨rfl, h', u⟩
  have B1 : Hid (w1.heap[q]? = some (.cells (nums .u32 (List.replicate 32 0)) 27 (0, 0))) := Lib.hid (u.keep (by rw [HQ.out]; exact heap_old (Go.heap_alloc_last w _) _) (by simp; omega))
  have B2 : Hid (w1.heap[q + 1]? = some (.cells (nums .u32 (List.replicate 5 0)) 28 (0, 0))) := Lib.hid (u.keep (by rw [HQ.out]; exact alloc_two w _ _) (by simp; omega))
  have U := Lib.hid ((((Upd.refl [b, d] w).alloc _).alloc _).trans u)
  replace H := Lib.hid h'
  clear h' u G' c0
  have c0 : (w1).cell? ⟨sb, 0, none⟩ = some (.pointer (some ⟨b, 0, none⟩)) := by rw [cells_of H.out.cell]; rfl
  go_wp2_with (fail)
  refine (W1.out _ H.out).mono ?_
  rintro e w2 ⟨rfl, h', u⟩
  replace B1 := Lib.hid (u.keep B1.out (by simp; omega))
  replace B2 := Lib.hid (u.keep B2.out (by simp; omega))
  replace U := Lib.hid (U.out.trans u)
  replace H := Lib.hid h'
  clear h' u c0 W1
  have ds : ((s : Int) == 2) = decide (s = 2) := by rw [Bool.eq_iff_iff]; simp only [beq_iff_eq, decide_eq_true_eq]; omega
  generalize hS2 : decide (s = 2) = S2 at ds
  have HS2 := Lib.hid hS2
  clear hS2
  have hqr : q + 1 < w2.heap.size := lt_of_block B2.out
  cases R1
  ·
    have c0 : (w2).cell? ⟨sb, 0, none⟩ = some (.pointer (some ⟨b, 0, none⟩)) := by rw [cells_of H.out.cell]; rfl
    go_wp2_with (first
      | go_skip
      | (refine L_store_new 54 (.tmp 9) (.tmp 26) rfl (by kernel_rfl) _ (nums .u32 V1) rfl rfl 39 info_r39 rfl (by rw [nums_size]; exact hv1.out) (nums_one _ _) ?_))
    have BV : Hid ((w2.alloc (.cells (nums .u32 V1) 54)).heap[w2.heap.size]? = some (.cells (nums .u32 V1) 54 (0, 0))) := Lib.hid (Go.heap_alloc_last w2 _)
    have u : Upd [] w2 (w2.alloc (.cells (nums .u32 V1) 54)) := (Upd.refl _ _).alloc _
    replace B1 := Lib.hid (u.keep B1.out (by simp))
    replace B2 := Lib.hid (u.keep B2.out (by simp))
    replace U := Lib.hid (U.out.trans (u.mono (by simp)))
    replace H := Lib.hid (H.out.upd0 u)
    generalize w2.alloc (.cells (nums .u32 V1) 54) = w3 at BV B1 B2 U H u ⊢
    generalize w2.heap.size = r at BV hqr ⊢
    clear u c0
    refine (W2.out _ H.out).mono ?_
    rintro e w4 ⟨rfl, h', u⟩
    replace B1 := Lib.hid (u.keep B1.out (by simp; omega))
    replace B2 := Lib.hid (u.keep B2.out (by simp; omega))
    replace BV := Lib.hid (u.keep BV.out (by simp; omega))
    replace U := Lib.hid (U.out.trans u)
    replace H := Lib.hid h'
    clear h' u W2
    go_wp2_with (first
      | go_skip
      | (refine L_store_row 54 (.tmp 9) (.tmp 37) rfl (by kernel_rfl) r 0 rfl (nums .u32 V1).toList 54 BV.out (nums .u32 V2) rfl 39 info_r39 (by rw [nums_size]; exact hv2.out) (by rw [Array.length_toList, nums_size, hv1.out]; omega) (nums_one _ _) ?_))
    intro w5 b5 u z5
    have e5 : (spl (nums .u32 V1).toList 0 (nums .u32 V2).toList).toArray = nums .u32 V2 := by
      rw [spl_all (by rw [Array.length_toList, Array.length_toList, nums_size, nums_size, hv1.out, hv2.out])]
    rw [e5] at b5
    replace BV := Lib.hid b5
    replace B1 := Lib.hid (u.keep B1.out (by simp; omega))
    replace B2 := Lib.hid (u.keep B2.out (by simp; omega))
    replace U := Lib.hid (U.out.then u (fun x hx hlt => by simp at hx; rw [← HQ.out] at hlt; omega))
    replace H := Lib.hid (H.out.upd u (by simp; omega) (by simp; omega) (by simp; omega) (by simp; omega))
    have hr5 : r < w5.heap.size := lt_of_block BV.out
    clear b5 u z5 e5
    have HL2 := Lib.hid HL.out
    cases R2
    · have hfin : Hid (RV = .tuple #[.int .u32 0, .agg (nums .u32 (List.replicate 32 0)), .agg (nums .u32 (List.replicate 5 0)), .int .i64 0, .bool false]) := Lib.hid (by rw [HV.out]; simp)
      go_wp2_with (first
        | go_skip
        | (refine L_store_row 27 (.tmp 3) (.tmp 45) rfl (by kernel_rfl) q 0 rfl (nums .u32 (List.replicate 32 0)).toList 27 B1.out (nums .u32 (List.replicate 32 0)) rfl 32 info_r32' rfl (Nat.le_refl _) (nums_one _ _) ?_))
      intro w6 b6 u6 z6
      rw [spl_all rfl] at b6
      have C1 := Lib.hid b6
      have C2 := Lib.hid (u6.keep B2.out (by simp))
      have V6 := Lib.hid u6
      clear b6 u6 z6
      go_wp2_with (first
        | go_skip
        | (refine L_store_row 28 (.tmp 4) (.tmp 46) rfl (by kernel_rfl) (q + 1) 0 rfl (nums .u32 (List.replicate 5 0)).toList 28 C2.out (nums .u32 (List.replicate 5 0)) rfl 5 info_r5 rfl (Nat.le_refl _) (nums_one _ _) ?_))
      intro w7 b7 u7 z7
      rw [spl_all rfl] at b7
      have C3 := Lib.hid b7
      have C4 := Lib.hid (u7.keep C1.out (by simp))
      have V7 := Lib.hid ((V6.out.mono (T := [q, q + 1]) (by simp)).trans (u7.mono (by simp)))
      clear b7 u7 z7
      go_wp2_with (fail)
      refine bodyPost_ret (results_load rfl _ w7 q (q + 1) 27 28 (nums .u32 (List.replicate 32 0)) (nums .u32 (List.replicate 5 0)) _ _ _ _ _ _ _ rfl rfl rfl rfl rfl C4.out C3.out Tryd.underlying27 rfl info_r32' Tryd.underlying28 rfl info_r5) rfl ?_
      refine ⟨by rw [hfin.out]; rfl, ?_, U.out.then V7.out (fun x hx hlt => by rw [← HQ.out] at hlt; simp at hx; omega)⟩
      rw [HF.out, HL.out]
      simp only [Bool.false_eq_true, ↓reduceIte]
      exact H.out.upd V7.out (by simp; omega) (by simp; omega) (by simp; omega) (by simp; omega)
    · cases S2
      · have hfin : Hid (RV = .tuple #[.int .u32 ((nth V2 0 : Nat) : Int), .agg (nums .u32 (0 :: (V2.drop 1).take 31)), .agg (nums .u32 ((V2.drop 32).take 5)), .int .i64 ((nth V2 37 : Nat) : Int), .bool true]) := Lib.hid (by rw [HV.out]; have := of_decide_eq_false HS2.out; simp [this])
        go_wp2_with (fail)
        generalize hW : World.alloc w5 _ = W
        have u : Upd [] w5 W := by rw [← hW]; exact (Upd.refl _ _).alloc _
        have BX : Hid (W.heap[w5.heap.size]? = some (.cells (nums .u32 (List.replicate 32 0)) 27 (0, 0))) := Lib.hid (by rw [← hW]; exact Go.heap_alloc_last w5 _)
        have hsz : W.heap.size = w5.heap.size + 1 := by rw [← hW]; simp
        replace BV := Lib.hid (u.keep BV.out (by simp))
        replace B1 := Lib.hid (u.keep B1.out (by simp))
        replace B2 := Lib.hid (u.keep B2.out (by simp))
        replace U := Lib.hid (U.out.trans (u.mono (by simp)))
        replace H := Lib.hid (H.out.upd0 u)
        clear u hW
        generalize w5.heap.size = x at BX hsz hr5 ⊢
        refine wp_region_plan (fun z => ∃ x : Near [x] W, z = x.1) [([0, 1], 2)] [] (by kernel_rfl) (by kernel_rfl) (by kernel_rfl) (by kernel_rfl) (fun _ d _ _ _ h => by cases d <;> exact h) ⟨⟨(W).drew, (Upd.refl _ _).drew⟩, rfl⟩ ?_
        refine plan_next ?_
        simp only [opsAt, List.map_cons, List.map_nil, List.getElem?_toArray, List.getElem?_cons_zero, List.getElem?_cons_succ, Option.getD_some]
        repeat (go_big_quiet_step (fail))
        refine wpQuiet_nil ?_
        refine plan_one rfl ?_
        refine wpList_copy_splice rfl (.tmp 47) (.tmp 48) 51 51 rfl 26 Tryd.underlying51 (by kernel_rfl) (some ⟨x, 1, none⟩) (some ⟨r, 1, none⟩) 31 31 31 38 rfl rfl x 1 (nums .u32 (List.replicate 32 0)).toList 27 (by simpa using ((Upd.refl [] W).drew.keep BX.out (by simp))) (nums .u32 ((V2.drop 1).take 31)).toList (by rw [Array.length_toList, nums_size, List.length_take, List.length_drop, hv2.out]; rfl) (fun _ => ⟨rfl, _, rfl, fun j v hj => by rw [Addr.add_mid]; exact row_mid ((Upd.refl [] W).drew.keep BV.out (by simp)) 1 31 j v hj⟩) (by rw [Array.length_toList, Array.length_toList, nums_size, nums_size, List.length_take, List.length_drop, hv2.out]; decide) (by have := nums_one .u32 ((V2.drop 1).take 31); rw [Array.all_eq_true'] at this; intro v hv; exact this v (by simpa using hv)) x W.drew (Below.refl _ _) (Nat.le_refl _) ?_
        intro W2 hg hb2
        have u : Upd [x] W W2 := ((Upd.refl [x] W).drew).trans (upd_below_last hb2 (by simp; omega))
        have xl : ((V2.drop 1).take 31).length = 31 := by rw [List.length_take, List.length_drop, hv2.out]; decide
        have yl : ((V2.drop 32).take 5).length = 5 := by rw [List.length_take, List.length_drop, hv2.out]; decide
        have hg2 := hg.out
        rw [splice_z xl] at hg2
        have a0 : nth V2 0 < 2 ^ 32 ∨ True := .inr trivial
        replace BX := Lib.hid hg2
        replace BV := Lib.hid (u.keep BV.out (by simp; omega))
        replace B1 := Lib.hid (u.keep B1.out (by simp; omega))
        replace B2 := Lib.hid (u.keep B2.out (by simp; omega))
        replace U := Lib.hid (U.out.then u (fun y hy hlt => by simp at hy; rw [← HQ.out] at hlt; omega))
        replace H := Lib.hid (H.out.upd u (by simp; omega) (by simp; omega) (by simp; omega) (by simp; omega))
        clear hg hb2 hg2 a0
        generalize hX : (V2.drop 1).take 31 = X at xl BX hfin ⊢
        generalize hY : (V2.drop 32).take 5 = Y at yl hfin ⊢
        have v0 := nums_nth .u32 V2 0 (by rw [hv2.out]; omega)
        have b37 : nth V2 37 < 2 ^ 32 := nth_lt hw2.out (by decide) 37
        have v37 := nums_nth .u32 V2 37 (by rw [hv2.out]; omega)
        have n0 : ∀ y : Near [q, q + 1] W2, y.1.cell? ⟨r, 0, none⟩ = some (.int .u32 ((nth V2 0 : Nat) : Int)) := fun y => by rw [cells_of (y.2.keep BV.out (by simp; omega))]; exact v0
        have n37 : ∀ y : Near [q, q + 1] W2, y.1.cell? ⟨r, 37, none⟩ = some (.int .u32 ((nth V2 37 : Nat) : Int)) := fun y => by rw [cells_of (y.2.keep BV.out (by simp; omega))]; exact v37
        have NX := Lib.hid (show ∀ y : Near [q, q + 1] W2, y.1.rangeAt x 0 (nums .u32 (0 :: X)).toList from fun y => row_range (y.2.keep BX.out (by simp; omega)))
        have NY := Lib.hid (show ∀ y : Near [q, q + 1] W2, y.1.rangeAt r 32 (nums .u32 Y).toList from fun y => by rw [← hY]; exact row_mid (y.2.keep BV.out (by simp; omega)) 32 5)
        have XL := Lib.hid (show (nums .u32 (0 :: X)).size = 32 by rw [nums_size, List.length_cons, xl])
        have YL := Lib.hid (show (nums .u32 Y).size = 5 by rw [nums_size, yl])
        have AT := array_at r
        clear hX hY xl yl v0 v37
        generalize nth V2 0 = p0 at n0 hfin
        generalize nth V2 37 = p37 at n37 hfin b37
        go_wp2_with fail
        refine plan_same ⟨⟨_, u⟩, rfl⟩ ?_
        clear u
        refine plan_last ?_
        simp only [opsAt, List.map_cons, List.map_nil, List.getElem?_toArray, List.getElem?_cons_zero, List.getElem?_cons_succ, Option.getD_some]
        go_simp
        repeat (go_big_quiet_step (fail))
        refine wpQuiet_nil ?_
        unfold planEnd
        go_wp2_with fail
        refine wp_region_plan (fun z => ∃ x : Near [q, q + 1] W2, z = x.1) [([0, 1, 2, 3, 4, 5, 6, 7, 8, 9], 10), ([], 11)] [12, 13] (by kernel_rfl) (by kernel_rfl) (by kernel_rfl) (by kernel_rfl) (fun _ d _ _ _ h => by cases d <;> exact h) ⟨⟨(W2).drew, (Upd.refl _ _).drew⟩, rfl⟩ ?_
        refine plan_next ?_
        simp only [opsAt, List.map_cons, List.map_nil, List.getElem?_toArray, List.getElem?_cons_zero, List.getElem?_cons_succ, Option.getD_some]
        repeat (go_big_quiet_step (fail))
        refine Q_load 27 (.tmp 11) rfl (by kernel_rfl) _ _ rfl (nums .u32 (0 :: X)) (by rintro _ ⟨y, rfl⟩; exact NX.out y) Tryd.underlying27 rfl 32 info_r32' XL.out ?_
        go_simp
        repeat (go_big_quiet_step (fail))
        refine Q_load 28 (.tmp 54) rfl (by kernel_rfl) _ _ rfl (nums .u32 Y) (by rintro _ ⟨y, rfl⟩; exact NY.out y) Tryd.underlying28 rfl 5 info_r5 YL.out ?_
        go_simp
        repeat (go_big_quiet_step (fail))
        refine wpQuiet_nil ?_
        refine plan_one rfl ?_
        refine L_store_row 27 (.tmp 3) (.tmp 52) rfl (by kernel_rfl) q 0 rfl (nums .u32 (List.replicate 32 0)).toList 27 (by simpa using ((Upd.refl [] W2).drew.keep B1.out (by simp))) (nums .u32 (0 :: X)) rfl 32 info_r32' XL.out (Nat.le_refl _) (nums_one _ _) ?_
        intro w6 b6 u6 z6
        rw [spl_all (by rw [Array.length_toList, Array.length_toList, XL.out]; rfl)] at b6
        have C1 := Lib.hid b6
        have V6 := Lib.hid (((Upd.refl [q] W2).drew).trans u6)
        have C2 := Lib.hid (V6.out.keep B2.out (by simp))
        clear b6 u6 z6
        go_wp2_with fail
        refine plan_same ⟨⟨_, (V6.out.mono (by simp))⟩, rfl⟩ ?_
        refine plan_next ?_
        simp only [opsAt, List.map_cons, List.map_nil, List.getElem?_toArray, List.getElem?_cons_zero, List.getElem?_cons_succ, Option.getD_some]
        refine wpQuiet_nil ?_
        refine plan_one rfl ?_
        refine L_store_row 28 (.tmp 4) (.tmp 55) rfl (by kernel_rfl) (q + 1) 0 rfl (nums .u32 (List.replicate 5 0)).toList 28 C2.out (nums .u32 Y) rfl 5 info_r5 YL.out (Nat.le_refl _) (nums_one _ _) ?_
        intro w7 b7 u7 z7
        rw [spl_all (by rw [Array.length_toList, Array.length_toList, YL.out]; rfl)] at b7
        have C3 := Lib.hid b7
        have C4 := Lib.hid (u7.keep C1.out (by simp))
        have V7 := Lib.hid ((V6.out.mono (T := [q, q + 1]) (by simp)).trans (u7.mono (by simp)))
        clear b7 u7 z7
        go_wp2_with fail
        refine plan_same ⟨⟨_, V7.out⟩, rfl⟩ ?_
        refine plan_last ?_
        simp only [opsAt, List.map_cons, List.map_nil, List.getElem?_toArray, List.getElem?_cons_zero, List.getElem?_cons_succ, Option.getD_some]
        go_simp
        repeat (go_big_quiet_step (fail))
        refine wpQuiet_nil ?_
        unfold planEnd
        go_wp2_with fail
        refine bodyPost_ret (results_load rfl _ w7 q (q + 1) 27 28 (nums .u32 (0 :: X)) (nums .u32 Y) _ _ _ _ _ _ _ rfl rfl rfl rfl rfl C4.out C3.out Tryd.underlying27 rfl (by rw [XL.out]; exact info_r32') Tryd.underlying28 rfl (by rw [YL.out]; exact info_r5)) rfl ?_
        refine ⟨by rw [hfin.out]; rfl, ?_, U.out.then V7.out (fun x hx hlt => by rw [← HQ.out] at hlt; simp at hx; omega)⟩
        rw [HF.out, HL.out]
        simp only [Bool.false_eq_true, ↓reduceIte]
        exact H.out.upd V7.out (by simp; omega) (by simp; omega) (by simp; omega) (by simp; omega)
      · have hfin : Hid (RV = .tuple #[.int .u32 0, .agg (nums .u32 (List.replicate 32 0)), .agg (nums .u32 (List.replicate 5 0)), .int .i64 0, .bool false]) := Lib.hid (by rw [HV.out]; have := of_decide_eq_true HS2.out; simp [this])
        go_wp2_with (first
          | go_skip
          | (refine L_store_row 27 (.tmp 3) (.tmp 45) rfl (by kernel_rfl) q 0 rfl (nums .u32 (List.replicate 32 0)).toList 27 B1.out (nums .u32 (List.replicate 32 0)) rfl 32 info_r32' rfl (Nat.le_refl _) (nums_one _ _) ?_))
        intro w6 b6 u6 z6
        rw [spl_all rfl] at b6
        have C1 := Lib.hid b6
        have C2 := Lib.hid (u6.keep B2.out (by simp))
        have V6 := Lib.hid u6
        clear b6 u6 z6
        go_wp2_with (first
          | go_skip
          | (refine L_store_row 28 (.tmp 4) (.tmp 46) rfl (by kernel_rfl) (q + 1) 0 rfl (nums .u32 (List.replicate 5 0)).toList 28 C2.out (nums .u32 (List.replicate 5 0)) rfl 5 info_r5 rfl (Nat.le_refl _) (nums_one _ _) ?_))
        intro w7 b7 u7 z7
        rw [spl_all rfl] at b7
        have C3 := Lib.hid b7
        have C4 := Lib.hid (u7.keep C1.out (by simp))
        have V7 := Lib.hid ((V6.out.mono (T := [q, q + 1]) (by simp)).trans (u7.mono (by simp)))
        clear b7 u7 z7
        go_wp2_with (fail)
        refine bodyPost_ret (results_load rfl _ w7 q (q + 1) 27 28 (nums .u32 (List.replicate 32 0)) (nums .u32 (List.replicate 5 0)) _ _ _ _ _ _ _ rfl rfl rfl rfl rfl C4.out C3.out Tryd.underlying27 rfl info_r32' Tryd.underlying28 rfl info_r5) rfl ?_
        refine ⟨by rw [hfin.out]; rfl, ?_, U.out.then V7.out (fun x hx hlt => by rw [← HQ.out] at hlt; simp at hx; omega)⟩
        rw [HF.out, HL.out]
        simp only [Bool.false_eq_true, ↓reduceIte]
        exact H.out.upd V7.out (by simp; omega) (by simp; omega) (by simp; omega) (by simp; omega)
  · cases S2
    · have hfin : Hid (RV = .tuple #[.int .u32 ((nth V1 0 : Nat) : Int), .agg (nums .u32 (0 :: (V1.drop 1).take 31)), .agg (nums .u32 ((V1.drop 32).take 5)), .int .i64 ((nth V1 37 : Nat) : Int), .bool true]) := Lib.hid (by rw [HV.out]; have := of_decide_eq_false HS2.out; simp [this])
      go_wp2_with (first
        | go_skip
        | (refine L_store_new 54 (.tmp 9) (.tmp 26) rfl (by kernel_rfl) _ (nums .u32 V1) rfl rfl 39 info_r39 rfl (by rw [nums_size]; exact hv1.out) (nums_one _ _) ?_))
      generalize hW : World.alloc (World.alloc w2 _) _ = W
      have u : Upd [] w2 W := by rw [← hW]; exact ((Upd.refl _ _).alloc _).alloc _
      have BV : Hid (W.heap[w2.heap.size]? = some (.cells (nums .u32 V1) 54 (0, 0))) := Lib.hid (by rw [← hW]; exact heap_old (Go.heap_alloc_last w2 _) _)
      have BX : Hid (W.heap[w2.heap.size + 1]? = some (.cells (nums .u32 (List.replicate 32 0)) 27 (0, 0))) := Lib.hid (by rw [← hW]; exact alloc_two w2 _ _)
      have hsz : W.heap.size = w2.heap.size + 1 + 1 := by rw [← hW]; simp
      replace B1 := Lib.hid (u.keep B1.out (by simp))
      replace B2 := Lib.hid (u.keep B2.out (by simp))
      replace U := Lib.hid (U.out.trans (u.mono (by simp)))
      replace H := Lib.hid (H.out.upd0 u)
      clear u hW
      obtain ⟨x, hx⟩ : ∃ x, x = w2.heap.size + 1 := ⟨_, rfl⟩
      rw [← hx] at BX hsz ⊢
      have hr5 : w2.heap.size < x := by omega
      generalize w2.heap.size = r at BV hqr hr5 ⊢
      clear hx
      refine wp_region_plan (fun z => ∃ x : Near [x] W, z = x.1) [([0, 1], 2)] [] (by kernel_rfl) (by kernel_rfl) (by kernel_rfl) (by kernel_rfl) (fun _ d _ _ _ h => by cases d <;> exact h) ⟨⟨(W).drew, (Upd.refl _ _).drew⟩, rfl⟩ ?_
      refine plan_next ?_
      simp only [opsAt, List.map_cons, List.map_nil, List.getElem?_toArray, List.getElem?_cons_zero, List.getElem?_cons_succ, Option.getD_some]
      repeat (go_big_quiet_step (fail))
      refine wpQuiet_nil ?_
      refine plan_one rfl ?_
      refine wpList_copy_splice rfl (.tmp 47) (.tmp 48) 51 51 rfl 26 Tryd.underlying51 (by kernel_rfl) (some ⟨x, 1, none⟩) (some ⟨r, 1, none⟩) 31 31 31 38 rfl rfl x 1 (nums .u32 (List.replicate 32 0)).toList 27 (by simpa using ((Upd.refl [] W).drew.keep BX.out (by simp))) (nums .u32 ((V1.drop 1).take 31)).toList (by rw [Array.length_toList, nums_size, List.length_take, List.length_drop, hv1.out]; rfl) (fun _ => ⟨rfl, _, rfl, fun j v hj => by rw [Addr.add_mid]; exact row_mid ((Upd.refl [] W).drew.keep BV.out (by simp)) 1 31 j v hj⟩) (by rw [Array.length_toList, Array.length_toList, nums_size, nums_size, List.length_take, List.length_drop, hv1.out]; decide) (by have := nums_one .u32 ((V1.drop 1).take 31); rw [Array.all_eq_true'] at this; intro v hv; exact this v (by simpa using hv)) x W.drew (Below.refl _ _) (Nat.le_refl _) ?_
      intro W2 hg hb2
      have u : Upd [x] W W2 := ((Upd.refl [x] W).drew).trans (upd_below_last hb2 (by simp; omega))
      have xl : ((V1.drop 1).take 31).length = 31 := by rw [List.length_take, List.length_drop, hv1.out]; decide
      have yl : ((V1.drop 32).take 5).length = 5 := by rw [List.length_take, List.length_drop, hv1.out]; decide
      have hg2 := hg.out
      rw [splice_z xl] at hg2
      have a0 : nth V1 0 < 2 ^ 32 ∨ True := .inr trivial
      replace BX := Lib.hid hg2
      replace BV := Lib.hid (u.keep BV.out (by simp; omega))
      replace B1 := Lib.hid (u.keep B1.out (by simp; omega))
      replace B2 := Lib.hid (u.keep B2.out (by simp; omega))
      replace U := Lib.hid (U.out.then u (fun y hy hlt => by simp at hy; rw [← HQ.out] at hlt; omega))
      replace H := Lib.hid (H.out.upd u (by simp; omega) (by simp; omega) (by simp; omega) (by simp; omega))
      clear hg hb2 hg2 a0
      generalize hX : (V1.drop 1).take 31 = X at xl BX hfin ⊢
      generalize hY : (V1.drop 32).take 5 = Y at yl hfin ⊢
      have v0 := nums_nth .u32 V1 0 (by rw [hv1.out]; omega)
      have b37 : nth V1 37 < 2 ^ 32 := nth_lt hw1.out (by decide) 37
      have v37 := nums_nth .u32 V1 37 (by rw [hv1.out]; omega)
      have n0 : ∀ y : Near [q, q + 1] W2, y.1.cell? ⟨r, 0, none⟩ = some (.int .u32 ((nth V1 0 : Nat) : Int)) := fun y => by rw [cells_of (y.2.keep BV.out (by simp; omega))]; exact v0
      have n37 : ∀ y : Near [q, q + 1] W2, y.1.cell? ⟨r, 37, none⟩ = some (.int .u32 ((nth V1 37 : Nat) : Int)) := fun y => by rw [cells_of (y.2.keep BV.out (by simp; omega))]; exact v37
      have NX := Lib.hid (show ∀ y : Near [q, q + 1] W2, y.1.rangeAt x 0 (nums .u32 (0 :: X)).toList from fun y => row_range (y.2.keep BX.out (by simp; omega)))
      have NY := Lib.hid (show ∀ y : Near [q, q + 1] W2, y.1.rangeAt r 32 (nums .u32 Y).toList from fun y => by rw [← hY]; exact row_mid (y.2.keep BV.out (by simp; omega)) 32 5)
      have XL := Lib.hid (show (nums .u32 (0 :: X)).size = 32 by rw [nums_size, List.length_cons, xl])
      have YL := Lib.hid (show (nums .u32 Y).size = 5 by rw [nums_size, yl])
      have AT := array_at r
      clear hX hY xl yl v0 v37
      generalize nth V1 0 = p0 at n0 hfin
      generalize nth V1 37 = p37 at n37 hfin b37
      go_wp2_with fail
      refine plan_same ⟨⟨_, u⟩, rfl⟩ ?_
      clear u
      refine plan_last ?_
      simp only [opsAt, List.map_cons, List.map_nil, List.getElem?_toArray, List.getElem?_cons_zero, List.getElem?_cons_succ, Option.getD_some]
      go_simp
      repeat (go_big_quiet_step (fail))
      refine wpQuiet_nil ?_
      unfold planEnd
      go_wp2_with fail
      refine wp_region_plan (fun z => ∃ x : Near [q, q + 1] W2, z = x.1) [([0, 1, 2, 3, 4, 5, 6, 7, 8, 9], 10), ([], 11)] [12, 13] (by kernel_rfl) (by kernel_rfl) (by kernel_rfl) (by kernel_rfl) (fun _ d _ _ _ h => by cases d <;> exact h) ⟨⟨(W2).drew, (Upd.refl _ _).drew⟩, rfl⟩ ?_
      refine plan_next ?_
      simp only [opsAt, List.map_cons, List.map_nil, List.getElem?_toArray, List.getElem?_cons_zero, List.getElem?_cons_succ, Option.getD_some]
      repeat (go_big_quiet_step (fail))
      refine Q_load 27 (.tmp 11) rfl (by kernel_rfl) _ _ rfl (nums .u32 (0 :: X)) (by rintro _ ⟨y, rfl⟩; exact NX.out y) Tryd.underlying27 rfl 32 info_r32' XL.out ?_
      go_simp
      repeat (go_big_quiet_step (fail))
      refine Q_load 28 (.tmp 54) rfl (by kernel_rfl) _ _ rfl (nums .u32 Y) (by rintro _ ⟨y, rfl⟩; exact NY.out y) Tryd.underlying28 rfl 5 info_r5 YL.out ?_
      go_simp
      repeat (go_big_quiet_step (fail))
      refine wpQuiet_nil ?_
      refine plan_one rfl ?_
      refine L_store_row 27 (.tmp 3) (.tmp 52) rfl (by kernel_rfl) q 0 rfl (nums .u32 (List.replicate 32 0)).toList 27 (by simpa using ((Upd.refl [] W2).drew.keep B1.out (by simp))) (nums .u32 (0 :: X)) rfl 32 info_r32' XL.out (Nat.le_refl _) (nums_one _ _) ?_
      intro w6 b6 u6 z6
      rw [spl_all (by rw [Array.length_toList, Array.length_toList, XL.out]; rfl)] at b6
      have C1 := Lib.hid b6
      have V6 := Lib.hid (((Upd.refl [q] W2).drew).trans u6)
      have C2 := Lib.hid (V6.out.keep B2.out (by simp))
      clear b6 u6 z6
      go_wp2_with fail
      refine plan_same ⟨⟨_, (V6.out.mono (by simp))⟩, rfl⟩ ?_
      refine plan_next ?_
      simp only [opsAt, List.map_cons, List.map_nil, List.getElem?_toArray, List.getElem?_cons_zero, List.getElem?_cons_succ, Option.getD_some]
      refine wpQuiet_nil ?_
      refine plan_one rfl ?_
      refine L_store_row 28 (.tmp 4) (.tmp 55) rfl (by kernel_rfl) (q + 1) 0 rfl (nums .u32 (List.replicate 5 0)).toList 28 C2.out (nums .u32 Y) rfl 5 info_r5 YL.out (Nat.le_refl _) (nums_one _ _) ?_
      intro w7 b7 u7 z7
      rw [spl_all (by rw [Array.length_toList, Array.length_toList, YL.out]; rfl)] at b7
      have C3 := Lib.hid b7
      have C4 := Lib.hid (u7.keep C1.out (by simp))
      have V7 := Lib.hid ((V6.out.mono (T := [q, q + 1]) (by simp)).trans (u7.mono (by simp)))
      clear b7 u7 z7
      go_wp2_with fail
      refine plan_same ⟨⟨_, V7.out⟩, rfl⟩ ?_
      refine plan_last ?_
      simp only [opsAt, List.map_cons, List.map_nil, List.getElem?_toArray, List.getElem?_cons_zero, List.getElem?_cons_succ, Option.getD_some]
      go_simp
      repeat (go_big_quiet_step (fail))
      refine wpQuiet_nil ?_
      unfold planEnd
      go_wp2_with fail
      refine bodyPost_ret (results_load rfl _ w7 q (q + 1) 27 28 (nums .u32 (0 :: X)) (nums .u32 Y) _ _ _ _ _ _ _ rfl rfl rfl rfl rfl C4.out C3.out Tryd.underlying27 rfl (by rw [XL.out]; exact info_r32') Tryd.underlying28 rfl (by rw [YL.out]; exact info_r5)) rfl ?_
      refine ⟨by rw [hfin.out]; rfl, ?_, U.out.then V7.out (fun x hx hlt => by rw [← HQ.out] at hlt; simp at hx; omega)⟩
      rw [HF.out, HL.out]
      simp only [Bool.false_eq_true, ↓reduceIte]
      exact H.out.upd V7.out (by simp; omega) (by simp; omega) (by simp; omega) (by simp; omega)
    · have hfin : Hid (RV = .tuple #[.int .u32 0, .agg (nums .u32 (List.replicate 32 0)), .agg (nums .u32 (List.replicate 5 0)), .int .i64 0, .bool false]) := Lib.hid (by rw [HV.out]; have := of_decide_eq_true HS2.out; simp [this])
      go_wp2_with (first
        | go_skip
        | (refine L_store_new 54 (.tmp 9) (.tmp 26) rfl (by kernel_rfl) _ (nums .u32 V1) rfl rfl 39 info_r39 rfl (by rw [nums_size]; exact hv1.out) (nums_one _ _) ?_)
        | (refine L_store_row 27 (.tmp 3) (.tmp 45) rfl (by kernel_rfl) q 0 rfl (nums .u32 (List.replicate 32 0)).toList 27 (heap_old B1.out _) (nums .u32 (List.replicate 32 0)) rfl 32 info_r32' rfl (Nat.le_refl _) (nums_one _ _) ?_))
      have u : Upd [] w2 (w2.alloc (.cells (nums .u32 V1) 54)) := (Upd.refl _ _).alloc _
      replace B1 := Lib.hid (u.keep B1.out (by simp))
      replace B2 := Lib.hid (u.keep B2.out (by simp))
      replace U := Lib.hid (U.out.trans (u.mono (by simp)))
      replace H := Lib.hid (H.out.upd0 u)
      generalize w2.alloc (.cells (nums .u32 V1) 54) = w5 at B1 B2 U H u ⊢
      intro w6 b6 u6 z6
      rw [spl_all rfl] at b6
      have C1 := Lib.hid b6
      have C2 := Lib.hid (u6.keep B2.out (by simp))
      have V6 := Lib.hid u6
      clear b6 u6 z6
      go_wp2_with (first
        | go_skip
        | (refine L_store_row 28 (.tmp 4) (.tmp 46) rfl (by kernel_rfl) (q + 1) 0 rfl (nums .u32 (List.replicate 5 0)).toList 28 C2.out (nums .u32 (List.replicate 5 0)) rfl 5 info_r5 rfl (Nat.le_refl _) (nums_one _ _) ?_))
      intro w7 b7 u7 z7
      rw [spl_all rfl] at b7
      have C3 := Lib.hid b7
      have C4 := Lib.hid (u7.keep C1.out (by simp))
      have V7 := Lib.hid ((V6.out.mono (T := [q, q + 1]) (by simp)).trans (u7.mono (by simp)))
      clear b7 u7 z7
      go_wp2_with (fail)
      refine bodyPost_ret (results_load rfl _ w7 q (q + 1) 27 28 (nums .u32 (List.replicate 32 0)) (nums .u32 (List.replicate 5 0)) _ _ _ _ _ _ _ rfl rfl rfl rfl rfl C4.out C3.out Tryd.underlying27 rfl info_r32' Tryd.underlying28 rfl info_r5) rfl ?_
      refine ⟨by rw [hfin.out]; rfl, ?_, U.out.then V7.out (fun x hx hlt => by rw [← HQ.out] at hlt; simp at hx; omega)⟩
      rw [HF.out, HL.out]
      simp only [Bool.false_eq_true, ↓reduceIte]
      exact H.out.upd V7.out (by simp; omega) (by simp; omega) (by simp; omega) (by simp; omega)
end Go.Proofs.YthoaofbhppdfoaaDoor
