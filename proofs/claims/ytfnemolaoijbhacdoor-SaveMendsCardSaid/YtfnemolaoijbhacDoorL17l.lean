/- Law 17: SaveLast. -/
import Derived.Test.YtfnemolaoijbhacDoorL17k
import Derived.Test.YtfnemolaoijbhacDoorAskS
import Derived.Test.YtfnemolaoijbhacDoorBook
namespace Go.Proofs.YtfnemolaoijbhacDoor
open Go.RowKit Go.Dio
set_option linter.unusedSimpArgs false
set_option linter.unusedVariables false

/-- The row of two copies of which the latest is that of an ask. -/
def LastIs (l : List Nat) (x : AskS) : Prop := ∃ c0 c1 k, TwoC c0 c1 k ∧ l = svRow c0 c1 k ∧ latC c0 c1 k = saveV x.pc x.regs x.csrs x.n
theorem LastIs.start : LastIs (svRow zeroC zeroC 0) AskS.zero := ⟨zeroC, zeroC, 0, newS_two, rfl, rfl⟩
theorem LastIs.len {l : List Nat} {x : AskS} (h : LastIs l x) : l.length = 79 := by
  obtain ⟨c0, c1, k, h, rfl, _⟩ := h
  exact svRow_len h.l0 h.l1
theorem LastIs.clean {l : List Nat} {x : AskS} (h : LastIs l x) {j : Nat} (hj : j < 79) : (peekL l (j : Int)).2 = 0 ∧ getL l (j : Int) = l ∧ getF l (j : Int) = 0 := by
  obtain ⟨c0, c1, k, h, rfl, _⟩ := h
  exact ⟨by rw [h.peek hj], (h.get hj).1, (h.get hj).2⟩
theorem LastIs.save {l : List Nat} {x y : AskS} (h : LastIs l x) (hy : y.Ok) : LastIs (saveW l (saveV y.pc y.regs y.csrs y.n)) y := by
  obtain ⟨c0, c1, k, h, rfl, _⟩ := h
  have hs := h.save (saveV_len hy.lr hy.lc) (saveV_lt (n := y.n) hy.pc hy.br hy.bc)
  have hk := h.k1
  rcases (by omega : k = 0 ∨ k = 1) with rfl | rfl
  · obtain ⟨e, t⟩ := hs.1 rfl
    exact ⟨_, _, _, t, e, rfl⟩
  · obtain ⟨e, t⟩ := hs.2 rfl
    exact ⟨_, _, _, t, e, rfl⟩
theorem LastIs.load {l : List Nat} {x : AskS} (h : LastIs l x) (hx : x.Ok) : loadV l = .tuple #[.int .u32 (x.pc : Int), .agg (nums .u32 (0 :: x.regs.tail)), .agg (nums .u32 x.csrs), .int .i64 (cntP x.n : Int), .bool true] := by
  obtain ⟨c0, c1, k, h, rfl, e⟩ := h
  rw [h.load (by rw [e]; exact save_mark hx.lr hx.lc), e, cpV_save hx.lr hx.lc]
theorem info_askS : (Tryd.prog.info? 30).map (·.size) = some 40 := by kernel_rfl
theorem AskS.one (x : AskS) : x.cells.toArray.all (·.oneCell') = true := by
  simp [AskS.cells, vals, Value.oneCell']
theorem AskS.regs_at {w : World} {b o : Nat} {x : AskS} (hx : x.Ok) (h : w.rangeAt b o x.cells) : w.rangeAt b (o + 3) (nums .u32 x.regs).toList ∧ w.rangeAt b (o + 35) (nums .u32 x.csrs).toList := by
  constructor
  · intro j v hj
    rw [Nat.add_assoc]
    refine h (3 + j) v ?_
    have hj2 : j < x.regs.length := by have := (List.getElem?_eq_some_iff.1 hj).1; simpa [nums] using this
    rw [AskS.cells, List.getElem?_append_right (by simp), List.getElem?_append_left (by simp [vals]; omega)]
    simpa [nums, vals] using hj
  · intro j v hj
    rw [Nat.add_assoc]
    refine h (35 + j) v ?_
    rw [AskS.cells, List.getElem?_append_right (by simp; omega), List.getElem?_append_right (by simp [vals, hx.lr]; omega)]
    have e : 35 + j - [Value.int .i64 x.kind, Value.int .i64 x.n, Value.int .u32 (x.pc : Int)].length - (vals .u32 x.regs).length = j := by simp [vals, hx.lr]; omega
    rw [e]
    simpa [nums, vals] using hj

set_option maxRecDepth 20000 in
set_option maxHeartbeats 4000000 in
theorem last17_walk (A : Option Addr) (asks : List AskS) (c : Nat) (n : Int) (w : World) (hA : AsksSAt w A asks) (hs : AsksSOk asks) (hlc : asks.length ≤ 9223372036854775807) (hn : -9223372036854775808 ≤ n ∧ n ≤ 9223372036854775807) (hT : Tz w) :
    Calls Tryd.prog 5 #[.slice A asks.length c, .int .i64 n] w fun e w' => e = .returned (.bool true) ∧ Below w.heap.size w w' := by
  have N1 := Lib.hid (E_snew (Env.none hT))
  have HT := Lib.hid hT
  have HA := Lib.hid hA
  have HS := Lib.hid hs
  have W1 := Lib.hid fun w' => Within_calls n 0 170 w' (by omega) (by omega) (by omega) hn
  obtain ⟨b1, b2⟩ := within_range (n := n) (show (0 : Int) ≤ 170 by omega)
  obtain ⟨M, hM⟩ : ∃ M : Nat, within n 0 170 = (M : Int) := ⟨(within n 0 170).toNat, by omega⟩
  rw [hM] at W1 b2
  have K := Lib.hid fun w' (h : Tz w') => known17_calls w' h
  have hu : ∀ As w', Env w As w' → Below w.heap.size w w' := fun _ _ h => h.below
  have HU := Lib.hid hu
  clear hT hA hs hM b1 hu hn
  go_enter Tryd.func5, Tryd.ntmps5
  go_wp2_with (fail)
  refine N1.out.mono ?_
  rintro e w1 ⟨rfl, H⟩
  replace H := Lib.hid H
  have HL := Lib.hid LastIs.start
  generalize svRow zeroC zeroC 0 = l at H HL
  generalize w.heap.size + 2 = mb at H ⊢
  generalize w.heap.size + 1 = b at H
  generalize hd : w.heap.size = d at H HU ⊢
  have HD := Lib.hid hd
  clear hd N1
  have tz0 := Lib.hid (Tz.of_upd HT.out H.out.upd (by simp))
  go_wp2_with (first
    | go_skip
    | (refine L_store_new 30 (.tmp 6) (.tmp 17) rfl (by kernel_rfl) _ AskS.zero.cells.toArray rfl rfl 40 info_askS rfl rfl (AskS.one _) ?_))
  replace H := Lib.hid (H.out.add ((Upd.refl _ _).alloc (.cells AskS.zero.cells.toArray 30)) (blk w1.heap.size AskS.zero.cells 30) (Go.heap_alloc_last w1 _) (by simp [blk]) (fun x hx => by simp [blk] at hx; subst hx; exact ⟨Nat.le_refl _, by simp⟩))
  generalize w1.alloc (.cells AskS.zero.cells.toArray 30) = w2 at H ⊢
  generalize w1.heap.size = q at H ⊢
  clear tz0
  go_loopg [7] 20 (fun g v7 wl => ∃ (i : Nat) (l : List Nat) (x : AskS), v7 = .int .i64 (i : Int) ∧ i ≤ 20 ∧ g = 20 - i ∧ Hid (LastIs l x) ∧ Hid x.Ok ∧ Hid (Env w [blk q x.cells 30, holdA 68 mb b d l 0 0] wl))
  case atStart => exact ⟨0, l, AskS.zero, rfl, by omega, rfl, HL, Lib.hid AskS.zero_ok, H⟩
  case round =>
    clear H HL
    obtain ⟨i, l, x, rfl, hi, hg, HL, HX, H⟩ := hrel
    rcases (by omega : (i < 20 ∧ i < asks.length) ∨ (asks.length ≤ i ∨ (i = 20 ∧ i < asks.length))) with ⟨hi20, hia⟩ | hend
    · obtain ⟨ba, oa, rfl, hba, hca⟩ := HA.out (by omega)
      have hr0 := hca i hia
      have HY := Lib.hid (HS.out i)
      clear hca
      generalize askSN asks i = y at hr0 HY
      have hr : wr.rangeAt ba (oa + i * 40) y.cells.toArray.toList := fun j v hv => by
        rw [← hr0 j v (by simpa using hv)]; exact World.cell?_of_block (w := w) (H.out.upd.block ba hba (by simp))
      have yl := AskS.cells_len HY.out
      have xl := AskS.cells_len HX.out
      have HR := Lib.hid hr
      have YL := Lib.hid (show y.cells.toArray.size = 40 by simpa using yl)
      have XL := Lib.hid xl
      have E0 := Lib.hid (H.out.ok 0 _ rfl)
      clear hr0 hr yl xl
      go_wp2_with (first
        | go_skip
        | (refine L_load 30 (.tmp 30) rfl (by kernel_rfl) _ _ rfl y.cells.toArray HR.out Tryd.underlying30 rfl 40 info_askS YL.out ?_)
        | (refine L_store_row 30 (.tmp 6) (.tmp 31) rfl (by kernel_rfl) q 0 rfl x.cells 30 E0.out y.cells.toArray rfl 40 info_askS YL.out (by rw [XL.out]; omega) (AskS.one _) ?_))
      intro wA b2 u2 z2
      rw [spl_all (by rw [XL.out]; simpa using YL.out)] at b2
      have H2 := H.out.set HT.out 0 rfl u2 (by simp [blk]) (A' := blk q y.cells 30) (by simpa [blk] using b2) rfl
      simp only [List.set_cons_zero] at H2
      replace H := Lib.hid H2
      clear b2 u2 z2 H2 E0 HR
      have B0 : wA.heap[q]? = some (.cells y.cells.toArray 30 (0, 0)) := H.out.ok 0 _ rfl
      have c2 : wA.cell? ⟨q, 2, none⟩ = some (.int .u32 (y.pc : Int)) := by rw [cells_of B0]; rfl
      have c1 : wA.cell? ⟨q, 1, none⟩ = some (.int .i64 y.n) := by rw [cells_of B0]; rfl
      obtain ⟨r1, r2⟩ := AskS.regs_at (o := 0) HY.out (by simpa using row_range B0)
      have R1 := Lib.hid r1
      have R2 := Lib.hid r2
      have S1 := Lib.hid (E_ssave H.out HT.out 1 rfl y.pc y.regs y.csrs y.n HL.out.len (by decide) HY.out.lr HY.out.lc HY.out.pc HY.out.br HY.out.bc HY.out.n)
      rw [show getF l 78 = 0 from (HL.out.clean (j := 78) (by decide)).2.2] at S1
      have HL2 := Lib.hid (HL.out.save HY.out)
      generalize saveW l (saveV y.pc y.regs y.csrs y.n) = l2 at S1 HL2
      clear B0 r1 r2
      go_wp2_with (first
        | go_skip
        | (refine L_load 27 (.tmp 35) rfl (by kernel_rfl) _ _ rfl (nums .u32 y.regs) R1.out Tryd.underlying27 rfl 32 info_r32' (by rw [nums_size]; exact HY.out.lr) ?_)
        | (refine L_load 28 (.tmp 37) rfl (by kernel_rfl) _ _ rfl (nums .u32 y.csrs) R2.out Tryd.underlying28 rfl 5 info_r5 (by rw [nums_size]; exact HY.out.lc) ?_))
      refine S1.out.mono ?_
      rintro e wB ⟨rfl, H', u⟩
      simp only [List.set_cons_succ, List.set_cons_zero, Nat.add_zero] at H'
      replace H := Lib.hid H'
      clear H' u S1 c1 c2 R1 R2
      go_wp2_with (fail)
      go_roundg (20 - (i + 1))
      case measure => omega
      case rel => exact ⟨i + 1, l2, y, by go_num, by omega, rfl, HL2, HY, H⟩
    · have hw0 : (decide ((i : Int) < (asks.length : Int)) && decide ((i : Int) < 20)) = false := by
        rw [Bool.and_eq_false_iff, decide_eq_false_iff_not, decide_eq_false_iff_not]; omega
      clear HA HS
      generalize asks.length = m at *
      rcases hend with hend | ⟨rfl, hend⟩
      all_goals
        go_wp2_with (fail)
        go_loopg [8] M (fun g v8 wl => ∃ j a : Nat, v8 = .int .i64 (j : Int) ∧ j ≤ M ∧ g = M - j ∧ a < 79 ∧ Hid (Env w [blk q x.cells 30, holdA 68 mb b d l 0 a] wl))
        case atStart => exact ⟨0, 0, rfl, by omega, rfl, by omega, H⟩
        case round =>
          clear H
          obtain ⟨j, a, rfl, hj, hgj, ha, H⟩ := hrel
          rcases Nat.lt_or_ge j M with hjM | hjM
          · have dj : decide (j < M) = true := decide_eq_true hjM
            have S1 := Lib.hid (E_sscrub H.out HT.out 1 rfl HL.out.len ha (by decide))
            obtain ⟨p1, p2, p3⟩ := HL.out.clean ha
            rw [p1, p2, p3] at S1
            clear p1 p2 p3
            go_wp2_with (fail)
            refine (W1.out _).mono ?_
            rintro e w' ⟨rfl, hw'⟩
            obtain rfl := hw'
            go_wp2_with (fail)
            refine S1.out.mono ?_
            rintro e wB ⟨rfl, H', u⟩
            simp only [List.set_cons_succ, List.set_cons_zero, Nat.add_zero] at H'
            replace H := Lib.hid H'
            clear H' u S1
            go_wp2_with (fail)
            go_roundg (M - (j + 1))
            case measure => omega
            case rel => exact ⟨j + 1, (a + 1) % 79, by go_num, by omega, rfl, Nat.mod_lt _ (by decide), H⟩
          · obtain rfl : j = M := by omega
            have dj : decide (j < j) = false := decide_eq_false (by omega)
            have L1 := Lib.hid (E_sload H.out HT.out 1 rfl HL.out.len (by decide))
            rw [HL.out.load HX.out] at L1
            generalize 0 + loadF l = f2 at L1
            generalize loadL l = l2 at L1
            go_wp2_with (fail)
            refine (W1.out _).mono ?_
            rintro e w' ⟨rfl, hw'⟩
            obtain rfl := hw'
            go_wp2_with (fail)
            refine L1.out.mono ?_
            rintro e w2 ⟨rfl, H', u⟩
            simp only [List.set_cons_succ, List.set_cons_zero] at H'
            replace H := Lib.hid H'
            clear H' u L1 W1
            obtain ⟨R, hR⟩ : ∃ R, R = 0 :: x.regs.tail := ⟨_, rfl⟩
            have lR : R.length = 32 := by rw [hR]; simp [HX.out.lr]
            have LR := Lib.hid lR
            rw [← hR]
            have HRR := Lib.hid hR
            clear hR lR
            go_wp2_with (first
              | go_skip
              | ((with_reducible refine at_st 10 ?_); refine L_store_row 27 (.tmp 10) (.tmp 55) rfl (by kernel_rfl) (w2).heap.size 0 rfl (nums .u32 (List.replicate 32 0)).toList 27 (heap_old (Go.heap_alloc_last w2 _) _) (nums .u32 R) rfl 32 info_r32' (by rw [nums_size]; exact LR.out) (Nat.le_refl _) (nums_one _ _) ?_))
            intro wA b2 u2 z2
            rw [spl_all (by first | rfl | (simp only [Array.length_toList, nums_size, List.length_replicate]; exact LR.out))] at b2
            have A1 := Lib.hid b2
            have A2 : Hid (wA.heap[(w2).heap.size + 1]? = some (.cells (nums .u32 (List.replicate 5 0)).toList.toArray 28 (0, 0))) := Lib.hid (u2.keep (alloc_two w2 _ _) (by simp))
            have V2 := Lib.hid ((((Upd.refl [] w2).alloc _).alloc _).then u2 (fun x hx hlt => by simp at hx; omega))
            clear b2 u2 z2
            go_wp2_with (first
              | go_skip
              | ((with_reducible refine at_st 11 ?_); refine L_store_row 28 (.tmp 11) (.tmp 56) rfl (by kernel_rfl) ((w2).heap.size + 1) 0 rfl (nums .u32 (List.replicate 5 0)).toList 28 A2.out (nums .u32 x.csrs) rfl 5 info_r5 (by rw [nums_size]; exact HX.out.lc) (Nat.le_refl _) (nums_one _ _) ?_))
            intro wB b3 u3 z3
            rw [spl_all (by first | rfl | (simp only [Array.length_toList, nums_size, List.length_replicate]; exact HX.out.lc))] at b3
            have A3 := Lib.hid b3
            have A4 := Lib.hid (u3.keep A1.out (by simp))
            have V3 := Lib.hid (V2.out.then u3 (fun x hx hlt => by simp at hx; omega))
            have hA3 := lt_of_block A3.out
            clear b3 u3 z3 A1 A2 V2
            replace H := Lib.hid (H.out.add V3.out (blk2 (w2).heap.size (nums .u32 R).toList 27 ((w2).heap.size + 1) (nums .u32 x.csrs).toList 28) ⟨A4.out, A3.out⟩ (by simp [blk2]) (fun x hx => by simp [blk2] at hx; omega))
            clear A3 A4 V3 hA3
            have hcell : (x.cells.toArray).setIfInBounds 3 (.int .u32 0) = (AskS.cells ⟨x.kind, x.n, x.pc, R, x.csrs⟩).toArray := by
              rw [HRR.out]
              obtain ⟨k0, n0, p0, r0, c0⟩ := x
              cases r0 with
              | nil => have := HX.out.lr; simp at this
              | cons r0 rt => simp [AskS.cells, vals]
            have B0 : wB.heap[q]? = some (.cells x.cells.toArray 30 (0, 0)) := H.out.ok 1 _ rfl
            have BB := Lib.hid (H.out.ok 0 _ rfl)
            have c3 : wB.cell? ⟨q, 3, none⟩ = some (.int .u32 ((nth x.regs 0 : Nat) : Int)) := by
              obtain ⟨r1, r2⟩ := AskS.regs_at (o := 0) HX.out (by simpa using row_range B0)
              have := r1 0 (.int .u32 ((nth x.regs 0 : Nat) : Int)) (by
                have := nums_nth .u32 x.regs 0 (by rw [HX.out.lr]; decide)
                simpa using this)
              simpa using this
            have f3 : wB.frozen? ⟨q, 3, none⟩ = false := free_of B0 3
            have B1 : Hid ((wB.setCell ⟨q, 3, none⟩ (.int .u32 0)).heap[q]? = some (.cells (AskS.cells ⟨x.kind, x.n, x.pc, R, x.csrs⟩).toArray 30 (0, 0))) := Lib.hid (by rw [heap_setCell_eq B0, hcell])
            have u3 : Upd [q] wB (wB.setCell ⟨q, 3, none⟩ (.int .u32 0)) := (Upd.refl [q] wB).setCell (p := ⟨q, 3, none⟩) (by simp) _
            have qne : q ≠ w2.heap.size ∧ q ≠ w2.heap.size + 1 := by
              have := fp_apart H.out.nodup (i := 0) (j := 1) rfl rfl (by omega)
              exact ⟨fun e => this w2.heap.size (by simp [blk2]) (by simp [blk, e]), fun e => this (w2.heap.size + 1) (by simp [blk2]) (by simp [blk, e])⟩
            have G1 := Lib.hid (u3.keep BB.out.1 (by simp; omega))
            have G2 := Lib.hid (u3.keep BB.out.2 (by simp; omega))
            have U9 := Lib.hid (H.out.upd.then u3 (fun x hx hlt => by
              simp at hx; subst hx
              have := (H.out.old x (by simp [blk, blk2])).1
              omega))
            have hTz : Tz (wB.setCell ⟨q, 3, none⟩ (.int .u32 0)) := Tz.of_upd H.out.tz u3 (by
              simp only [List.mem_cons, List.not_mem_nil, or_false]
              exact fun e => H.out.tzne HT.out (x := q) (by simp [blk, blk2]) e.symm)
            have TZ := Lib.hid hTz
            clear hTz hcell BB u3 qne B0
            go_upto_region 17 with (fail)
            generalize wB.setCell ⟨q, 3, none⟩ (.int .u32 0) = wC at B1 G1 G2 U9 TZ ⊢
            clear c3 f3 H
            have HX2 : AskS.Ok ⟨x.kind, x.n, x.pc, R, x.csrs⟩ := ⟨HX.out.kind, HX.out.n, HX.out.pc, LR.out, HX.out.lc, fun z hz => by
              rw [HRR.out] at hz
              rcases List.mem_cons.1 hz with rfl | h
              · decide
              · exact HX.out.br z (List.mem_of_mem_tail h), HX.out.bc⟩
            have c2 : wC.cell? ⟨q, 2, none⟩ = some (.int .u32 (x.pc : Int)) := by rw [cells_of B1.out]; rfl
            have c1 : wC.cell? ⟨q, 1, none⟩ = some (.int .i64 x.n) := by rw [cells_of B1.out]; rfl
            obtain ⟨r1, r2⟩ := AskS.regs_at (o := 0) HX2 (by simpa using row_range B1.out)
            have R1 := Lib.hid r1
            have R2 := Lib.hid r2
            have q1 := run_eql_nums 27 26 32 .u32 Tryd.underlying27 Tryd.underlying26 (fun w => by rfl) R R LR.out LR.out
            have q2 := run_eql_nums 28 26 5 .u32 Tryd.underlying28 Tryd.underlying26 (fun w => by rfl) x.csrs x.csrs HX.out.lc HX.out.lc
            rw [decide_eq_true rfl] at q1 q2
            have hmin := min2_nat .i64 x.n 2147483647 _ rfl
            have hmax := max2_nat .i64 (min x.n 2147483647) 0 (cntP x.n : Int) (by unfold cntP; omega)
            have K1 := Lib.hid (K.out wC TZ.out)
            generalize cntP x.n = N at hmax ⊢
            generalize min x.n 2147483647 = mn at hmin hmax
            clear r1 r2 HX2
            go_wp2_with (first
              | go_skip
              | (refine L_load 27 (.tmp 10) rfl (by kernel_rfl) _ _ rfl (nums .u32 R) (row_range G1.out) Tryd.underlying27 rfl 32 info_r32' (by rw [nums_size]; exact LR.out) ?_)
              | (refine L_load 27 (.tmp 70) rfl (by kernel_rfl) _ _ rfl (nums .u32 R) R1.out Tryd.underlying27 rfl 32 info_r32' (by rw [nums_size]; exact LR.out) ?_)
              | (refine L_load 28 (.tmp 11) rfl (by kernel_rfl) _ _ rfl (nums .u32 x.csrs) (row_range G2.out) Tryd.underlying28 rfl 5 info_r5 (by rw [nums_size]; exact HX.out.lc) ?_)
              | (refine L_load 28 (.tmp 76) rfl (by kernel_rfl) _ _ rfl (nums .u32 x.csrs) R2.out Tryd.underlying28 rfl 5 info_r5 (by rw [nums_size]; exact HX.out.lc) ?_))
            refine K1.out.mono ?_
            rintro e w9 ⟨rfl, hb⟩
            go_wp2_with (fail)
            go_ret
            exact ⟨rfl, (U9.out.trans (Upd.of_below hb)).below⟩
end Go.Proofs.YtfnemolaoijbhacDoor
