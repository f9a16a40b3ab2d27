/- Checkpoints, in memory: a copy's words, Load. -/
import Derived.Test.YthoaofbhppdfoaaDoorSave2
namespace Go.Proofs.YthoaofbhppdfoaaDoor
open Go.RowKit Go.Dio
set_option linter.unusedSimpArgs false
set_option linter.unusedVariables false

theorem info_r39 : (Tryd.prog.info? 54).map (·.size) = some 39 := by kernel_rfl
theorem info_r39' : (Tryd.prog.info? 54).map (·.zero) = some (some (.agg (nums .u32 (List.replicate 39 0)))) := by kernel_rfl
theorem getsF_le (l : List Nat) (a : Nat) : ∀ n, getsF l a n ≤ n
  | 0 => Nat.le_refl _
  | n + 1 => by
    have := getsF_le l a n
    have : getF (gets l a n) ((a + n : Nat) : Int) ≤ 1 := by unfold getF; split <;> omega
    rw [getsF]; omega
theorem words_get {T : TypeId} {sb b d : Nat} {l : List Nat} {f a i k : Nat} {z : Int} {w : World} (h : HoldAt T sb b d (gets l (39 * k) i) (f + getsF l (39 * k) i) a w) (hz : z = (k : Int) * 39 + (i : Int)) (hk : 39 * k + i < l.length) (hi : i < 39) (hf : f < 9223372036854770000) :
    Calls Tryd.prog 22 #[.pointer (some ⟨b, 0, none⟩), .int .i64 z] w fun e w' => e = .returned (.tuple #[.int .u32 (((dec (nth l (39 * k + i))).1 : Nat) : Int), .int .i64 (((dec (nth l (39 * k + i))).2 : Nat) : Int)]) ∧ HoldAt T sb b d (gets l (39 * k) (i + 1)) (f + getsF l (39 * k) (i + 1)) a w' ∧ Upd [b, d] w w' := by
  have hg := getsF_le l (39 * k) i
  have e1 : peekL (gets l (39 * k) i) z = dec (nth l (39 * k + i)) := by
    rw [show z = ((39 * k + i : Nat) : Int) by omega, peekL, inn_of (by omega) (by rw [gets_len]; omega)]
    show dec (nth _ (39 * k + i)) = _
    rw [gets_nth _ _ _ _ (.inr (Nat.le_refl _))]
  have e2 : gets l (39 * k) (i + 1) = getL (gets l (39 * k) i) z := by rw [gets, show ((39 * k + i : Nat) : Int) = z by omega]
  have e3 : f + getsF l (39 * k) (i + 1) = f + getsF l (39 * k) i + getF (gets l (39 * k) i) z := by rw [getsF, show ((39 * k + i : Nat) : Int) = z by omega]; omega
  rw [e2, e3, ← e1]
  exact (Get_calls _ b d _ _ z w h.row (by omega)).mono fun e w' ⟨he, hr, hu⟩ => ⟨he, h.step hr hu (by simp), hu⟩

set_option maxRecDepth 20000 in
set_option maxHeartbeats 2000000 in
theorem SWords_calls (T : TypeId) (sb b d : Nat) (l : List Nat) (f a k : Nat) (w : World) (h : HoldAt T sb b d l f a w) (hl : l.length = 79) (hf : f < 9223372036854770000) (hk : k ≤ 1) :
    Calls Tryd.prog 23 #[.pointer (some ⟨sb, 0, none⟩), .int .i64 (k : Int)] w fun e w' => e = .returned (.tuple #[.agg (nums .u32 (valsL l (39 * k) 39)), .bool (rightP l k)]) ∧ HoldAt T sb b d (gets l (39 * k) 39) (f + getsF l (39 * k) 39) a w' ∧ Upd [b, d] w w' := by
  have WG := Lib.hid fun (i : Nat) (z : Int) w1 (h : HoldAt T sb b d (gets l (39 * k) i) (f + getsF l (39 * k) i) a w1) (hi : i < 39) (hz : z = (k : Int) * 39 + (i : Int)) => words_get h hz (by omega) hi hf
  have H := Lib.hid h
  have htz := h.row.tz.lt
  have hsq := h.slt
  have hbq := h.row.blt
  have hdq := h.row.dlt
  have c0 : w.cell? ⟨sb, 0, none⟩ = some (.pointer (some ⟨b, 0, none⟩)) := by rw [cells_of H.out.cell]; rfl
  clear h
  obtain ⟨R, hR⟩ : ∃ R, R = rightP l k := ⟨_, rfl⟩
  have hR2 : R = (goodN l (39 * k) 39 && decide (nth (valsL l (39 * k) 39) 38 = markP (nth (valsL l (39 * k) 39) 37))) := hR
  rw [← hR]
  have HRR := Lib.hid hR2
  clear hR hR2
  go_enter Tryd.func23, Tryd.ntmps23
  go_wp2_with (fail)
  go_loopg [7, 11] 39 (fun g v7 v11 wl => ∃ (i : Nat) (o : List Nat) (G : Bool), v7 = .bool G ∧ v11 = .int .i64 (i : Int) ∧ i ≤ 39 ∧ g = 39 - i ∧ Hid (G = goodN l (39 * k) i) ∧ Hid (o.length = 39 ∧ ∀ j, j < i → nth o j = (dec (nth l (39 * k + j))).1) ∧ Hid (wl.heap[w.heap.size + 1]? = some (.cells (nums .u32 o) 54 (0, 0))) ∧ Hid (wl.heap[w.heap.size]? = some (.cells (nums .u32 (List.replicate 39 0)) 54 (0, 0))) ∧ Hid (HoldAt T sb b d (gets l (39 * k) i) (f + getsF l (39 * k) i) a wl) ∧ Hid (Upd [b, d] w wl))
  case atStart => exact ⟨0, List.replicate 39 0, true, rfl, rfl, by omega, rfl, Lib.hid rfl, Lib.hid ⟨rfl, fun j hj => by omega⟩, Lib.hid (alloc_two w _ _), Lib.hid (heap_old (Go.heap_alloc_last w _) _), Lib.hid (H.out.upd0 (((Upd.refl _ _).alloc _).alloc _)), Lib.hid (((Upd.refl _ _).alloc _).alloc _)⟩
  case round =>
    clear H c0
    obtain ⟨i, o, G, rfl, rfl, hi, hg, HG, HO, BO, BQ, H, U⟩ := hrel
    have c0 : wr.cell? ⟨sb, 0, none⟩ = some (.pointer (some ⟨b, 0, none⟩)) := by rw [cells_of H.out.cell]; rfl
    rcases Nat.lt_or_ge i 39 with h39 | h39
    · go_wp2_with (fail)
      refine (WG.out i _ _ H.out (by omega) (by omega)).mono ?_
      rintro e w1 ⟨rfl, h', u⟩
      have HGs : Hid (goodN l (39 * k) (i + 1) = (G && decide ((dec (nth l (39 * k + i))).2 ≠ 2))) := Lib.hid (by rw [goodN, HG.out])
      have HY : Hid ((dec (nth l (39 * k + i))).1 = (dec (nth l (39 * k + i))).1) := Lib.hid rfl
      obtain ⟨y, hy⟩ : ∃ y, y = (dec (nth l (39 * k + i))).1 := ⟨_, rfl⟩
      obtain ⟨z, hz⟩ : ∃ z, z = (dec (nth l (39 * k + i))).2 := ⟨_, rfl⟩
      rw [← hy, ← hz]
      rw [← hz] at HGs
      replace HY := Lib.hid hy
      have BO1 := Lib.hid (u.keep BO.out (by simp; omega))
      have BQ1 := Lib.hid (u.keep BQ.out (by simp; omega))
      replace H := Lib.hid h'
      replace U := Lib.hid (U.out.trans u)
      clear h' u hy hz c0 BO BQ HG
      have f1 : w1.frozen? ⟨w.heap.size + 1, i, none⟩ = false := free_of BO1.out _
      have c1 : w1.cell? ⟨w.heap.size + 1, i, none⟩ = some (.int .u32 ((nth o i : Nat) : Int)) := by rw [cells_of BO1.out]; exact nums_nth .u32 o i (by rw [HO.out.1]; omega)
      obtain ⟨D, hD⟩ : ∃ D : Bool, D = decide (z ≠ 2) := ⟨_, rfl⟩
      have dz : ((z : Int) != 2) = D := by rw [hD, Bool.eq_iff_iff]; simp only [bne_iff_ne, decide_eq_true_eq]; omega
      rw [← hD] at HGs
      clear hD
      cases G
      all_goals
        go_wp2_with (fail)
        go_roundg (39 - (i + 1))
        case measure => omega
        case rel =>
          refine ⟨i + 1, o.set i y, _, rfl, by go_num, by omega, rfl, Lib.hid (by rw [HGs.out]; simp), Lib.hid ⟨by simpa using HO.out.1, fun j hj => ?_⟩, Lib.hid ?_, Lib.hid ?_, Lib.hid ?_, Lib.hid ?_⟩
          · by_cases e : j = i
            · subst e
              rw [nth_set_eq (by rw [HO.out.1]; omega), HY.out]
            · rw [nth_set_ne (by omega)]
              exact HO.out.2 j (by omega)
          · rw [heap_setCell_eq BO1.out, nums_set]
          · rw [heap_setCell_ne _ _ (by simp)]; exact BQ1.out
          · exact H.out.upd ((Upd.refl [w.heap.size + 1] w1).setCell (p := ⟨w.heap.size + 1, i, none⟩) (by simp) _) (by intro hx; simp at hx <;> omega) (by intro hx; simp at hx <;> omega) (by intro hx; simp at hx <;> omega) (by intro hx; simp at hx <;> omega)
          · exact U.out.setCell (p := ⟨w.heap.size + 1, i, none⟩) (by intro hx; simp at hx <;> omega) _
    · obtain rfl : i = 39 := by omega
      have HV := Lib.hid (show o = valsL l (39 * k) 39 from List.ext_getElem (by rw [HO.out.1, valsL_len]) fun j h1 h2 => by
        rw [← nth_eq o j h1, ← nth_eq _ j h2, HO.out.2 j (by rw [HO.out.1] at h1; exact h1), valsL_nth _ _ (by rw [HO.out.1] at h1; exact h1)])
      have hv0 := HO.out.2 37 (by omega)
      have hv1 := HO.out.2 38 (by omega)
      have a37 : nth o 37 < 2 ^ 32 := by rw [hv0]; exact dec_lt32 _
      have l37 : (nums .u32 o)[37]? = some (.int .u32 ((nth o 37 : Nat) : Int)) := nums_nth .u32 o 37 (by rw [HO.out.1]; omega)
      have l38 : (nums .u32 o)[38]? = some (.int .u32 ((nth o 38 : Nat) : Int)) := nums_nth .u32 o 38 (by rw [HO.out.1]; omega)
      have so : (nums .u32 o).size = 39 := by rw [nums_size]; exact HO.out.1
      have h16 := and65535 (nth o 37) a37
      have hor := or_mark (nth o 37 % 65536) (by omega)
      have hmk : markP (nth o 37) = 1526595584 + nth o 37 % 65536 := rfl
      have n0 : ∀ x : Near [w.heap.size] wr, x.1.cell? ⟨w.heap.size + 1, 37, none⟩ = some (.int .u32 ((nth o 37 : Nat) : Int)) := fun x => by rw [cells_of (x.2.keep BO.out (by simp))]; exact l37
      have n1 : ∀ x : Near [w.heap.size] wr, x.1.cell? ⟨w.heap.size + 1, 38, none⟩ = some (.int .u32 ((nth o 38 : Nat) : Int)) := fun x => by rw [cells_of (x.2.keep BO.out (by simp))]; exact l38
      have NR : ∀ x : Near [w.heap.size] wr, x.1.rangeAt (w.heap.size + 1) 0 (nums .u32 o).toList := fun x => row_range (x.2.keep BO.out (by simp))
      replace HRR := Lib.hid (show R = (G && decide (nth o 38 = markP (nth o 37))) by rw [HRR.out, HG.out, HV.out])
      rw [hmk] at HRR
      clear hv0 hv1 l37 l38 hmk HG c0
      generalize nth o 37 % 65536 = N16 at h16 hor HRR
      generalize 1526595584 + N16 = MK at hor HRR
      generalize nth o 38 = y38 at n1 HRR
      generalize nth o 37 = y37 at n0 h16
      obtain ⟨E, hE⟩ : ∃ E : Bool, E = decide (y38 = MK) := ⟨_, rfl⟩
      have dE : ((y38 : Int) == (MK : Int)) = E := by rw [hE, Bool.eq_iff_iff]; simp only [beq_iff_eq, decide_eq_true_eq]; omega
      rw [← hE] at HRR
      clear hE
      have NR' := Lib.hid NR
      clear NR
      cases G
      all_goals
        go_wp2_with (fail)
        refine wp_region_plan (fun z => ∃ x : Near [w.heap.size] wr, z = x.1) [([0, 1, 2, 3, 4, 5, 6, 7, 8, 9, 10], 11)] [12] (by kernel_rfl) (by kernel_rfl) (by kernel_rfl) (by kernel_rfl) (fun _ d _ _ _ h => by cases d <;> exact h) ⟨⟨(wr).drew, (Upd.refl _ _).drew⟩, rfl⟩ ?_
        refine plan_next ?_
        simp only [opsAt, List.map_cons, List.map_nil, List.getElem?_toArray, List.getElem?_cons_zero, List.getElem?_cons_succ, Option.getD_some]
        refine Q_load 54 (.tmp 6) rfl (by kernel_rfl) _ _ rfl (nums .u32 o) (by rintro _ ⟨x, rfl⟩; exact NR'.out x) Tryd.underlying54 rfl 39 info_r39 so ?_
        go_simp
        repeat (go_big_quiet_step (fail))
        refine wpQuiet_nil ?_
        refine plan_one rfl ?_
        refine L_store_row 54 (.tmp 4) (.tmp 35) rfl (by kernel_rfl) w.heap.size 0 rfl (nums .u32 (List.replicate 39 0)).toList 54 (by simpa using (((Upd.refl [] wr).drew).keep BQ.out (by simp))) (nums .u32 o) rfl 39 info_r39 so (Nat.le_refl _) (nums_one _ _) ?_
        intro w2 b2 u2 z2
        have e2 : (spl (nums .u32 (List.replicate 39 0)).toList 0 (nums .u32 o).toList).toArray = nums .u32 o := by
          rw [spl_all (by rw [Array.length_toList, Array.length_toList, so]; rfl)]
        rw [e2] at b2
        have B2 := Lib.hid b2
        have u3 : Upd [w.heap.size] wr w2 := ((Upd.refl [w.heap.size] wr).drew).trans u2
        have U2 := Lib.hid (U.out.then u3 (fun x hx hlt => by simp at hx; omega))
        have H2 := Lib.hid (H.out.upd u3 (by simp; omega) (by simp; omega) (by simp; omega) (by simp; omega))
        clear b2 u2 z2 e2
        go_wp2_with (fail)
        refine plan_same ⟨⟨_, u3⟩, rfl⟩ ?_
        refine plan_last ?_
        simp only [opsAt, List.map_cons, List.map_nil, List.getElem?_toArray, List.getElem?_cons_zero, List.getElem?_cons_succ, Option.getD_some]
        go_simp
        repeat (go_big_quiet_step (fail))
        refine wpQuiet_nil ?_
        unfold planEnd
        go_wp2_with fail
        refine bodyPost_ret (results_row_tmp rfl _ _ w.heap.size 54 (nums .u32 o) _ _ _ rfl rfl B2.out Tryd.underlying54 rfl (by rw [so]; exact info_r39)) rfl ⟨by rw [HRR.out, HV.out]; simp, H2.out, U2.out⟩
end Go.Proofs.YthoaofbhppdfoaaDoor
