/- The document's checkpoints among other things in memory. -/
import Derived.Test.YthoaofbhppdfoaaDoorRSv5
import Derived.Test.YthoaofbhppdfoaaDoorEnvS
import Derived.Test.YthoaofbhppdfoaaDoorL17l
namespace Go.Proofs.YthoaofbhppdfoaaDoor
open Go.RowKit Go.Dio
set_option linter.unusedSimpArgs false
set_option linter.unusedVariables false

section
variable {w0 : World} {As : List Ast} {w : World} {sb b d : Nat} {l : List Nat} {f a : Nat} (h : Env w0 As w) (h0 : Tz w0) (k : Nat) (hk : As[k]? = some (rholdA sb b d l f a))
include h h0 hk
theorem E_rsrow (c : Int) :
    Calls Tryd.prog 14 #[.pointer (some ⟨b, 0, none⟩), .int .i64 c] w fun e w' => e = .returned (.bool (flipB l c)) ∧ Env w0 (As.set k (rholdA sb b d (flipL l c) f a)) w' ∧ Upd [d] w w' :=
  (RFlip_calls _ b d l f c w (h.ok k _ hk).row).mono fun _ _ ⟨he, hr, hu⟩ => ⟨he, h.set h0 k hk hu (by simp [rholdA]) ((h.ok k _ hk).step hr hu (by simp)) rfl, hu⟩
theorem E_rsscrub (ha : a < 79) (hf : f < 9223372036854775806) :
    Calls Tryd.prog 12 #[.pointer (some ⟨sb, 0, none⟩)] w fun e w' => e = .returned (.int .i64 ((peekL l (a : Int)).2 : Int)) ∧ Env w0 (As.set k (rholdA sb b d (getL l (a : Int)) (f + getF l (a : Int)) ((a + 1) % 79))) w' ∧ Upd [sb, b, d] w w' :=
  (RSScrub_calls sb b d l f a w (h.ok k _ hk) ha hf).mono fun _ _ ⟨he, hr, hu⟩ => ⟨he, h.set h0 k hk hu (by simp [rholdA]) hr rfl, hu⟩
theorem E_rssave (pc : Nat) (regs csrs : List Nat) (n : Int) (hl : l.length = 79) (hf : f < 9223372036854775806) (hr : regs.length = 32) (hc : csrs.length = 5) (hp : pc < 2 ^ 32) (hrs : ∀ x ∈ regs, x < 2 ^ 32) (hcs : ∀ x ∈ csrs, x < 2 ^ 32) (hn : -9223372036854775808 ≤ n ∧ n ≤ 9223372036854775807) :
    Calls Tryd.prog 16 #[.pointer (some ⟨sb, 0, none⟩), .int .u32 (pc : Int), .agg (nums .u32 regs), .agg (nums .u32 csrs), .int .i64 n] w fun e w' => e = .returned (.tuple #[]) ∧ Env w0 (As.set k (rholdA sb b d (saveW l (saveV pc regs csrs n)) (f + getF l 78) a)) w' ∧ Upd [b, d] w w' :=
  (RSSave_calls sb b d l f a pc regs csrs n w (h.ok k _ hk) hl hf hr hc hp hrs hcs hn.1 hn.2).mono fun _ w' ⟨he, hr, hu⟩ => ⟨he, by
    rw [saveL_eq] at hr
    generalize saveW l (saveV pc regs csrs n) = l2 at hr ⊢
    exact h.set h0 k hk hu (by simp [rholdA]) hr rfl, hu⟩
theorem E_rsload (hl : l.length = 79) (hf : f < 9223372036854760000) :
    Calls Tryd.prog 10 #[.pointer (some ⟨sb, 0, none⟩)] w fun e w' => e = .returned (loadV l) ∧ Env w0 (As.set k (rholdA sb b d (loadL l) (f + loadF l) a)) w' ∧ Upd [b, d] w w' :=
  (RSLoad_calls sb b d l f a w (h.ok k _ hk) hl hf).mono fun _ _ ⟨he, hr, hu⟩ => ⟨he, h.set h0 k hk hu (by simp [rholdA]) hr rfl, hu⟩
end
theorem E_rsnew {w0 : World} {As : List Ast} {w : World} (h : Env w0 As w) :
    Calls Tryd.prog 8 #[] w fun e w' => ∃ sb, e = .returned (.pointer (some ⟨sb, 0, none⟩)) ∧ Env w0 (rholdA sb (w.heap.size + 1) w.heap.size newS 0 0 :: As) w' :=
  (RSNew_calls w h.tz).mono fun _ _ ⟨sb, he, h2, hr, hu⟩ => ⟨sb, he, h.add hu _ hr (by simp [rholdA]; omega) (fun x hx => by
    have h1 := hr.row.blt
    have h2 := hr.row.dlt
    have h3 := hr.slt
    simp [rholdA] at hx; omega)⟩
theorem loadV_form (l : List Nat) : ∃ (p : Nat) (R C : List Nat) (n : Nat) (ok : Bool), loadV l = .tuple #[.int .u32 (p : Int), .agg (nums .u32 R), .agg (nums .u32 C), .int .i64 (n : Int), .bool ok] ∧ R.length = 32 ∧ C.length = 5 := by
  have hw : (loadW l).length = 39 := by unfold loadW; split <;> rw [valsL_len]
  unfold loadV
  split
  · exact ⟨_, _, _, _, _, rfl, by simp [hw], by simp [hw]⟩
  · exact ⟨0, _, _, 0, _, rfl, by simp, by simp⟩
end Go.Proofs.YthoaofbhppdfoaaDoor

namespace Go.Proofs.YthoaofbhppdfoaaDoor
open Go.RowKit Go.Dio
set_option linter.unusedSimpArgs false
set_option linter.unusedVariables false

theorem getF_le1 (l : List Nat) (i : Int) : getF l i ≤ 1 := by unfold getF; split <;> omega
set_option maxRecDepth 20000 in
set_option maxHeartbeats 4000000 in
theorem play17_calls (A : Option Addr) (asks : List AskS) (c : Nat) (w : World) (hA : AsksSAt w A asks) (hs : AsksSOk asks) (hlc : asks.length ≤ 9223372036854775807) (hT : Tz w) :
    Calls Tryd.prog 4 #[.slice A asks.length c] w fun e w' => e = .returned (.bool true) ∧ Below w.heap.size w w' := by
  have HA := Lib.hid hA
  have HS := Lib.hid hs
  have HT := Lib.hid hT
  have N1 := Lib.hid (E_snew (Env.none hT))
  clear hA hs hT
  go_enter Tryd.func4, Tryd.ntmps4
  go_wp2_with (fail)
  refine N1.out.mono ?_
  rintro e w1 ⟨rfl, H⟩
  have NS := Lib.hid (E_rsnew H)
  clear N1 H
  rw [newS_eq] at NS
  have hl0 : (svRow zeroC zeroC 0).length = 79 := by rw [← newS_eq]; exact newS_len
  generalize svRow zeroC zeroC 0 = l at NS hl0
  go_wp2_with (fail)
  refine NS.out.mono ?_
  rintro e w2 ⟨sb', rfl, H⟩
  replace H := Lib.hid H
  have HL0 := Lib.hid hl0
  have hu : ∀ As w', Env w As w' → Below w.heap.size w w' := fun _ _ h => h.below
  have HU := Lib.hid hu
  clear NS hl0 hu
  generalize w.heap.size + 2 = mb at H ⊢
  generalize w.heap.size + 1 = b at H
  generalize hd : w.heap.size = d at H HU ⊢
  have HD := Lib.hid hd
  clear hd
  generalize w1.heap.size + 1 = b' at H
  generalize w1.heap.size = d' at H
  go_wp2_with (fail)
  go_loopg [5] 60 (fun g v5 wl => ∃ (i : Nat) (l : List Nat) (f a : Nat), v5 = .int .i64 (i : Int) ∧ i ≤ 60 ∧ g = 60 - i ∧ f ≤ 80 * i ∧ a < 79 ∧ Hid (l.length = 79) ∧ Hid (Env w [rholdA sb' b' d' l f a, holdA 47 mb b d l f a] wl))
  case atStart => exact ⟨0, l, 0, 0, rfl, by omega, rfl, by omega, by omega, HL0, H⟩
  case round =>
    clear H HL0
    obtain ⟨i, l, f, a, rfl, hi, hg, hf, ha, HL, H⟩ := hrel
    rcases (by omega : (i < 60 ∧ i < asks.length) ∨ (asks.length ≤ i ∨ (i = 60 ∧ i < asks.length))) with ⟨hi60, hia⟩ | hend
    · obtain ⟨ba, oa, rfl, hba, hca⟩ := HA.out (by omega)
      have hr0 := hca i hia
      have HY := Lib.hid (HS.out i)
      clear hca
      generalize askSN asks i = y at hr0 HY
      have hr : wr.rangeAt ba (oa + i * 40) y.cells.toArray.toList := fun j v hv => by
        rw [← hr0 j v (by simpa using hv)]; exact World.cell?_of_block (w := w) (H.out.upd.block ba (by rw [HD.out] at hba ⊢; exact hba) (by simp))
      have yl := AskS.cells_len HY.out
      have HR := Lib.hid hr
      have YL := Lib.hid (show y.cells.toArray.size = 40 by simpa using yl)
      have YL2 := Lib.hid yl
      clear hr0 hr yl
      go_upto_region 8 with (first
        | go_skip
        | ((with_reducible refine at_op 42 ?_); refine L_load 30 (.tmp 41) rfl (by kernel_rfl) _ _ rfl y.cells.toArray HR.out Tryd.underlying30 rfl 40 info_askS YL.out ?_)
        | ((with_reducible refine at_st 6 ?_); refine L_store_new 30 (.tmp 6) (.tmp 42) rfl (by kernel_rfl) _ y.cells.toArray rfl rfl 40 info_askS rfl YL.out (AskS.one _) ?_))
      replace H := Lib.hid (H.out.add ((Upd.refl _ _).alloc (.cells y.cells.toArray 30)) (blk wr.heap.size y.cells 30) (Go.heap_alloc_last wr _) (by simp [blk]) (fun x hx => by simp [blk] at hx; subst hx; simp))
      generalize wr.alloc (.cells y.cells.toArray 30) = W at H ⊢
      generalize wr.heap.size = q at H ⊢
      clear HR
      have B0 : W.heap[q]? = some (.cells y.cells.toArray 30 (0, 0)) := H.out.ok 0 _ rfl
      have c0 : W.cell? ⟨q, 0, none⟩ = some (.int .i64 y.kind) := by rw [cells_of B0]; rfl
      have c1 : W.cell? ⟨q, 1, none⟩ = some (.int .i64 y.n) := by rw [cells_of B0]; rfl
      have c2 : W.cell? ⟨q, 2, none⟩ = some (.int .u32 (y.pc : Int)) := by rw [cells_of B0]; rfl
      clear B0
      by_cases k3 : y.kind = 3
      · rw [k3] at c0
        obtain ⟨p, R, C, m, ok, hv, lR, lC⟩ := loadV_form l
        have S1 := Lib.hid (E_sload H.out HT.out 2 rfl HL.out (by omega))
        have S2 := Lib.hid fun As w' (h : Env w As w') (hk : As[2]? = some (rholdA sb' b' d' l f a)) => E_rsload h HT.out 2 hk HL.out (by omega)
        rw [hv] at S1 S2
        have hl2 := Lib.hid (show (loadL l).length = 79 by rw [loadL_len, HL.out])
        have hf2 : f + loadF l ≤ 80 * (i + 1) := by have := loadF_le l; omega
        generalize loadL l = l2 at S1 S2 hl2
        generalize f + loadF l = f2 at S1 S2 hf2
        have LR := Lib.hid lR
        have LC := Lib.hid lC
        clear hv lR lC HL
        go_wp2_with (fail)
        refine S1.out.mono ?_
        rintro e w3 ⟨rfl, H', u⟩
        simp only [List.set_cons_succ, List.set_cons_zero] at H'
        replace H := Lib.hid H'
        clear H' u S1 c0 c1 c2
        go_wp2_with (first
          | go_skip
          | ((with_reducible refine at_st 8 ?_); refine L_store_row 27 (.tmp 8) (.tmp 73) rfl (by kernel_rfl) (w3).heap.size 0 rfl (nums .u32 (List.replicate 32 0)).toList 27 (heap_old (Go.heap_alloc_last w3 _) _) (nums .u32 R) rfl 32 info_r32' (by rw [nums_size]; exact LR.out) (Nat.le_refl _) (nums_one _ _) ?_))
        intro wA b2 u2 z2
        rw [spl_all (by first | rfl | (simp only [Array.length_toList, nums_size, List.length_replicate]; exact LR.out))] at b2
        have A1 := Lib.hid b2
        have A2 : Hid (wA.heap[(w3).heap.size + 1]? = some (.cells (nums .u32 (List.replicate 5 0)).toList.toArray 28 (0, 0))) := Lib.hid (u2.keep (alloc_two w3 _ _) (by simp))
        have V2 := Lib.hid ((((Upd.refl [] w3).alloc _).alloc _).then u2 (fun x hx hlt => by simp at hx; omega))
        clear b2 u2 z2
        go_wp2_with (first
          | go_skip
          | ((with_reducible refine at_st 9 ?_); refine L_store_row 28 (.tmp 9) (.tmp 74) rfl (by kernel_rfl) ((w3).heap.size + 1) 0 rfl (nums .u32 (List.replicate 5 0)).toList 28 A2.out (nums .u32 C) rfl 5 info_r5 (by rw [nums_size]; exact LC.out) (Nat.le_refl _) (nums_one _ _) ?_))
        intro wB b3 u3 z3
        rw [spl_all (by first | rfl | (simp only [Array.length_toList, nums_size, List.length_replicate]; exact LC.out))] at b3
        have A3 := Lib.hid b3
        have A4 := Lib.hid (u3.keep A1.out (by simp))
        have V3 := Lib.hid (V2.out.then u3 (fun x hx hlt => by simp at hx; omega))
        have hA3 := lt_of_block A3.out
        clear b3 u3 z3 A1 A2 V2
        replace H := Lib.hid (H.out.add V3.out (blk2 (w3).heap.size (nums .u32 R).toList 27 ((w3).heap.size + 1) (nums .u32 C).toList 28) ⟨A4.out, A3.out⟩ (by simp [blk2]) (fun x hx => by simp [blk2] at hx; omega))
        clear A3 A4 V3 hA3
        go_wp2_with (fail)
        refine (S2.out _ _ H.out rfl).mono ?_
        rintro e w5 ⟨rfl, H', u⟩
        simp only [List.set_cons_succ, List.set_cons_zero] at H'
        replace H := Lib.hid H'
        clear H' u S2
        go_wp2_with (first
          | go_skip
          | ((with_reducible refine at_st 13 ?_); refine L_store_row 27 (.tmp 13) (.tmp 81) rfl (by kernel_rfl) (w5).heap.size 0 rfl (nums .u32 (List.replicate 32 0)).toList 27 (heap_old (Go.heap_alloc_last w5 _) _) (nums .u32 R) rfl 32 info_r32' (by rw [nums_size]; exact LR.out) (Nat.le_refl _) (nums_one _ _) ?_))
        intro wA b2 u2 z2
        rw [spl_all (by first | rfl | (simp only [Array.length_toList, nums_size, List.length_replicate]; exact LR.out))] at b2
        have A1 := Lib.hid b2
        have A2 : Hid (wA.heap[(w5).heap.size + 1]? = some (.cells (nums .u32 (List.replicate 5 0)).toList.toArray 28 (0, 0))) := Lib.hid (u2.keep (alloc_two w5 _ _) (by simp))
        have V2 := Lib.hid ((((Upd.refl [] w5).alloc _).alloc _).then u2 (fun x hx hlt => by simp at hx; omega))
        clear b2 u2 z2
        go_wp2_with (first
          | go_skip
          | ((with_reducible refine at_st 14 ?_); refine L_store_row 28 (.tmp 14) (.tmp 82) rfl (by kernel_rfl) ((w5).heap.size + 1) 0 rfl (nums .u32 (List.replicate 5 0)).toList 28 A2.out (nums .u32 C) rfl 5 info_r5 (by rw [nums_size]; exact LC.out) (Nat.le_refl _) (nums_one _ _) ?_))
        intro wB b3 u3 z3
        rw [spl_all (by first | rfl | (simp only [Array.length_toList, nums_size, List.length_replicate]; exact LC.out))] at b3
        have A3 := Lib.hid b3
        have A4 := Lib.hid (u3.keep A1.out (by simp))
        have V3 := Lib.hid (V2.out.then u3 (fun x hx hlt => by simp at hx; omega))
        have hA3 := lt_of_block A3.out
        clear b3 u3 z3 A1 A2 V2
        replace H := Lib.hid (H.out.add V3.out (blk2 (w5).heap.size (nums .u32 R).toList 27 ((w5).heap.size + 1) (nums .u32 C).toList 28) ⟨A4.out, A3.out⟩ (by simp [blk2]) (fun x hx => by simp [blk2] at hx; omega))
        clear A3 A4 V3 hA3
        have G2 := Lib.hid (H.out.ok 0 _ rfl)
        have G1 := Lib.hid (H.out.ok 1 _ rfl)
        have q1 := run_neq_nums 27 26 32 .u32 Tryd.underlying27 Tryd.underlying26 (fun w => by rfl) R R LR.out LR.out
        have q2 := run_neq_nums 28 26 5 .u32 Tryd.underlying28 Tryd.underlying26 (fun w => by rfl) C C LC.out LC.out
        rw [decide_eq_true rfl] at q1 q2
        go_wp2_with (first
          | go_skip
          | ((with_reducible refine at_op 89 ?_); refine L_load 27 (.tmp 8) rfl (by kernel_rfl) _ _ rfl (nums .u32 R) (row_range G1.out.1) Tryd.underlying27 rfl 32 info_r32' (by rw [nums_size]; exact LR.out) ?_)
          | ((with_reducible refine at_op 90 ?_); refine L_load 27 (.tmp 13) rfl (by kernel_rfl) _ _ rfl (nums .u32 R) (row_range G2.out.1) Tryd.underlying27 rfl 32 info_r32' (by rw [nums_size]; exact LR.out) ?_)
          | ((with_reducible refine at_op 94 ?_); refine L_load 28 (.tmp 9) rfl (by kernel_rfl) _ _ rfl (nums .u32 C) (row_range G1.out.2) Tryd.underlying28 rfl 5 info_r5 (by rw [nums_size]; exact LC.out) ?_)
          | ((with_reducible refine at_op 95 ?_); refine L_load 28 (.tmp 14) rfl (by kernel_rfl) _ _ rfl (nums .u32 C) (row_range G2.out.2) Tryd.underlying28 rfl 5 info_r5 (by rw [nums_size]; exact LC.out) ?_))
        go_roundg (60 - (i + 1))
        case measure => omega
        case rel => exact ⟨i + 1, l2, f2, a, by go_num, by omega, rfl, hf2, ha, hl2, Lib.hid H.out.drop1.drop1.drop1⟩
      · by_cases k4 : y.kind = 4
        · rw [k4] at c0
          have S1 := Lib.hid (E_sscrub H.out HT.out 2 rfl HL.out ha (by omega))
          have S2 := Lib.hid fun As w' (h : Env w As w') (hk : As[1]? = some (rholdA sb' b' d' l f a)) => E_rsscrub h HT.out 1 hk ha (by omega)
          have hl2 := Lib.hid (show (getL l (a : Int)).length = 79 by rw [getL_len, HL.out])
          have hf2 : f + getF l (a : Int) ≤ 80 * (i + 1) := by have := getF_le1 l (a : Int); omega
          have ha2 : (a + 1) % 79 < 79 := Nat.mod_lt _ (by decide)
          generalize getL l (a : Int) = l2 at S1 S2 hl2
          generalize f + getF l (a : Int) = f2 at S1 S2 hf2
          generalize (a + 1) % 79 = a2 at S1 S2 ha2
          generalize (peekL l (a : Int)).2 = st at S1 S2
          clear HL c1 c2
          go_wp2_with (fail)
          refine S1.out.mono ?_
          rintro e w3 ⟨rfl, H', u⟩
          simp only [List.set_cons_succ, List.set_cons_zero] at H'
          replace H := Lib.hid H'
          clear H' u S1 c0
          go_wp2_with (fail)
          refine (S2.out _ _ H.out rfl).mono ?_
          rintro e w5 ⟨rfl, H', u⟩
          simp only [List.set_cons_succ, List.set_cons_zero] at H'
          replace H := Lib.hid H'
          clear H' u S2
          go_wp2_with (fail)
          go_roundg (60 - (i + 1))
          case measure => omega
          case rel => exact ⟨i + 1, l2, f2, a2, by go_num, by omega, rfl, hf2, ha2, hl2, Lib.hid H.out.drop1⟩
        · have e3 : (y.kind == 3) = false := by rw [beq_eq_false_iff_ne]; exact k3
          have e4 : (y.kind == 4) = false := by rw [beq_eq_false_iff_ne]; exact k4
          by_cases k56 : y.kind = 5 ∨ y.kind = 6
          · have hq1 := fp_apart H.out.nodup (i := 0) (j := 1) rfl rfl (by omega) q (by simp [blk])
            have hq2 := fp_apart H.out.nodup (i := 0) (j := 2) rfl rfl (by omega) q (by simp [blk])
            have hs2 := fp_apart H.out.nodup (i := 1) (j := 2) rfl rfl (by omega) sb' (by simp [rholdA])
            have hs1 := (show RHoldAt sb' b' d' l f a W from H.out.ok 1 _ rfl).nd
            simp only [rholdA, holdA, List.mem_cons, List.not_mem_nil, or_false, not_or] at hq1 hq2 hs2
            have hqS : q ∉ [d, d'] := by simp; omega
            have hsS : sb' ∉ [d, d'] := by simp; omega
            have n1 : ∀ z : Near [d, d'] W, z.1.cell? ⟨q, 1, none⟩ = some (.int .i64 y.n) := fun z => by rw [cells_of (z.2.keep (H.out.ok 0 _ rfl) hqS)]; rfl
            have n2 : ∀ z : Near [d, d'] W, z.1.cell? ⟨sb', 0, none⟩ = some (.pointer (some ⟨b', 0, none⟩)) := fun z => by rw [cells_of (z.2.keep (show RHoldAt sb' b' d' l f a W from H.out.ok 1 _ rfl).cell hsS)]; rfl
            have S1 := Lib.hid fun w' (h : Env w [blk q y.cells 30, rholdA sb' b' d' l f a, holdA 47 mb b d l f a] w') => E_sflip h HT.out 2 rfl y.n
            have S2 := Lib.hid fun As w' (h : Env w As w') (hk : As[1]? = some (rholdA sb' b' d' l f a)) => E_rsrow h HT.out 1 hk y.n
            have hl2 := Lib.hid (show (flipL l y.n).length = 79 by rw [flipL_len, HL.out])
            generalize flipL l y.n = l2 at S1 S2 hl2
            generalize flipB l y.n = fb at S1 S2
            clear HL c1 c2 hq1 hq2 hs2 hs1 hqS hsS
            rcases k56 with k | k
            · rw [k] at c0
              go_wp2_with (fail)
              refine wp_region_plan (fun z => ∃ x : Near [d, d'] W, z = x.1) [([0, 1, 2, 4, 5, 6, 7, 8, 9], 3), ([], 10)] [11] (by kernel_rfl) (by kernel_rfl) (by kernel_rfl) (by kernel_rfl) (fun _ d _ _ _ h => by cases d <;> exact h) ⟨⟨(W).drew, (Upd.refl _ _).drew⟩, rfl⟩ ?_
              refine plan_next ?_
              simp only [opsAt, List.map_cons, List.map_nil, List.getElem?_toArray, List.getElem?_cons_zero, List.getElem?_cons_succ, Option.getD_some]
              repeat (go_big_quiet_step (fail))
              refine wpQuiet_nil ?_
              refine plan_one rfl ?_
              go_wp2_with fail
              refine (S1.out _ (H.out.near (Upd.refl _ _).drew)).mono ?_
              rintro e w3 ⟨rfl, H', u⟩
              simp only [List.set_cons_succ, List.set_cons_zero] at H'
              replace H := Lib.hid H'
              have U := Lib.hid (show Upd [d, d'] W w3 from ((Upd.refl _ _).drew).trans (u.mono (by simp)))
              clear H' u S1
              go_wp2_with fail
              refine plan_same ⟨⟨_, U.out⟩, rfl⟩ ?_
              refine plan_next ?_
              simp only [opsAt, List.map_cons, List.map_nil, List.getElem?_toArray, List.getElem?_cons_zero, List.getElem?_cons_succ, Option.getD_some]
              repeat (go_big_quiet_step (fail))
              refine wpQuiet_nil ?_
              refine plan_one rfl ?_
              go_wp2_with fail
              refine (S2.out _ _ H.out rfl).mono ?_
              rintro e w5 ⟨rfl, H', u⟩
              simp only [List.set_cons_succ, List.set_cons_zero] at H'
              replace H := Lib.hid H'
              replace U := Lib.hid (show Upd [d, d'] W w5 from U.out.trans (u.mono (by simp)))
              clear H' u S2
              go_wp2_with fail
              refine plan_same ⟨⟨_, U.out⟩, rfl⟩ ?_
              refine plan_last ?_
              simp only [opsAt, List.map_cons, List.map_nil, List.getElem?_toArray, List.getElem?_cons_zero, List.getElem?_cons_succ, Option.getD_some]
              repeat (go_big_quiet_step (fail))
              refine wpQuiet_nil ?_
              unfold planEnd
              go_wp2_with fail
              go_roundg (60 - (i + 1))
              case measure => omega
              case rel => exact ⟨i + 1, l2, f, a, by go_num, by omega, rfl, by omega, ha, hl2, Lib.hid H.out.drop1⟩
            · rw [k] at c0
              go_wp2_with (fail)
              refine wp_region_plan (fun z => ∃ x : Near [d, d'] W, z = x.1) [([0, 1, 2, 4, 5, 6, 7, 8, 9], 3), ([], 10)] [11] (by kernel_rfl) (by kernel_rfl) (by kernel_rfl) (by kernel_rfl) (fun _ d _ _ _ h => by cases d <;> exact h) ⟨⟨(W).drew, (Upd.refl _ _).drew⟩, rfl⟩ ?_
              refine plan_next ?_
              simp only [opsAt, List.map_cons, List.map_nil, List.getElem?_toArray, List.getElem?_cons_zero, List.getElem?_cons_succ, Option.getD_some]
              repeat (go_big_quiet_step (fail))
              refine wpQuiet_nil ?_
              refine plan_one rfl ?_
              go_wp2_with fail
              refine (S1.out _ (H.out.near (Upd.refl _ _).drew)).mono ?_
              rintro e w3 ⟨rfl, H', u⟩
              simp only [List.set_cons_succ, List.set_cons_zero] at H'
              replace H := Lib.hid H'
              have U := Lib.hid (show Upd [d, d'] W w3 from ((Upd.refl _ _).drew).trans (u.mono (by simp)))
              clear H' u S1
              go_wp2_with fail
              refine plan_same ⟨⟨_, U.out⟩, rfl⟩ ?_
              refine plan_next ?_
              simp only [opsAt, List.map_cons, List.map_nil, List.getElem?_toArray, List.getElem?_cons_zero, List.getElem?_cons_succ, Option.getD_some]
              repeat (go_big_quiet_step (fail))
              refine wpQuiet_nil ?_
              refine plan_one rfl ?_
              go_wp2_with fail
              refine (S2.out _ _ H.out rfl).mono ?_
              rintro e w5 ⟨rfl, H', u⟩
              simp only [List.set_cons_succ, List.set_cons_zero] at H'
              replace H := Lib.hid H'
              replace U := Lib.hid (show Upd [d, d'] W w5 from U.out.trans (u.mono (by simp)))
              clear H' u S2
              go_wp2_with fail
              refine plan_same ⟨⟨_, U.out⟩, rfl⟩ ?_
              refine plan_last ?_
              simp only [opsAt, List.map_cons, List.map_nil, List.getElem?_toArray, List.getElem?_cons_zero, List.getElem?_cons_succ, Option.getD_some]
              repeat (go_big_quiet_step (fail))
              refine wpQuiet_nil ?_
              unfold planEnd
              go_wp2_with fail
              go_roundg (60 - (i + 1))
              case measure => omega
              case rel => exact ⟨i + 1, l2, f, a, by go_num, by omega, rfl, by omega, ha, hl2, Lib.hid H.out.drop1⟩
          · have e5 : (y.kind == 5) = false := by rw [beq_eq_false_iff_ne]; omega
            have e6 : (y.kind == 6) = false := by rw [beq_eq_false_iff_ne]; omega
            obtain ⟨r1, r2⟩ := AskS.regs_at (o := 0) HY.out (by simpa using row_range (show W.heap[q]? = _ from H.out.ok 0 _ rfl))
            have R1 := Lib.hid r1
            have R2 := Lib.hid r2
            have S1 := Lib.hid (E_ssave H.out HT.out 2 rfl y.pc y.regs y.csrs y.n HL.out (by omega) HY.out.lr HY.out.lc HY.out.pc HY.out.br HY.out.bc HY.out.n)
            have S2 := Lib.hid fun As w' (h : Env w As w') (hk : As[1]? = some (rholdA sb' b' d' l f a)) => E_rssave h HT.out 1 hk y.pc y.regs y.csrs y.n HL.out (by omega) HY.out.lr HY.out.lc HY.out.pc HY.out.br HY.out.bc HY.out.n
            have hl2 := Lib.hid (show (saveW l (saveV y.pc y.regs y.csrs y.n)).length = 79 by rw [saveW_len, HL.out])
            have hf2 : f + getF l 78 ≤ 80 * (i + 1) := by have := getF_le1 l 78; omega
            generalize saveW l (saveV y.pc y.regs y.csrs y.n) = l2 at S1 S2 hl2
            generalize f + getF l 78 = f2 at S1 S2 hf2
            clear r1 r2 HL k3 k4 k56
            go_wp2_with (first
              | go_skip
              | ((with_reducible refine at_op 51 ?_); refine L_load 27 (.tmp 50) rfl (by kernel_rfl) _ _ rfl (nums .u32 y.regs) R1.out Tryd.underlying27 rfl 32 info_r32' (by rw [nums_size]; exact HY.out.lr) ?_)
              | ((with_reducible refine at_op 53 ?_); refine L_load 28 (.tmp 52) rfl (by kernel_rfl) _ _ rfl (nums .u32 y.csrs) R2.out Tryd.underlying28 rfl 5 info_r5 (by rw [nums_size]; exact HY.out.lc) ?_)
              | fail)
            refine S1.out.mono ?_
            rintro e w3 ⟨rfl, H', u⟩
            simp only [List.set_cons_succ, List.set_cons_zero] at H'
            replace H := Lib.hid H'
            clear H' u S1 c0 c1 c2 R1 R2
            have B0 : w3.heap[q]? = some (.cells y.cells.toArray 30 (0, 0)) := H.out.ok 0 _ rfl
            have c1 : w3.cell? ⟨q, 1, none⟩ = some (.int .i64 y.n) := by rw [cells_of B0]; rfl
            have c2 : w3.cell? ⟨q, 2, none⟩ = some (.int .u32 (y.pc : Int)) := by rw [cells_of B0]; rfl
            obtain ⟨r1, r2⟩ := AskS.regs_at (o := 0) HY.out (by simpa using row_range B0)
            have R1 := Lib.hid r1
            have R2 := Lib.hid r2
            clear r1 r2 B0
            go_wp2_with (first
              | go_skip
              | ((with_reducible refine at_op 61 ?_); refine L_load 27 (.tmp 60) rfl (by kernel_rfl) _ _ rfl (nums .u32 y.regs) R1.out Tryd.underlying27 rfl 32 info_r32' (by rw [nums_size]; exact HY.out.lr) ?_)
              | ((with_reducible refine at_op 63 ?_); refine L_load 28 (.tmp 62) rfl (by kernel_rfl) _ _ rfl (nums .u32 y.csrs) R2.out Tryd.underlying28 rfl 5 info_r5 (by rw [nums_size]; exact HY.out.lc) ?_)
              | fail)
            refine (S2.out _ _ H.out rfl).mono ?_
            rintro e w5 ⟨rfl, H', u⟩
            simp only [List.set_cons_succ, List.set_cons_zero] at H'
            replace H := Lib.hid H'
            clear H' u S2 c1 c2 R1 R2
            go_wp2_with (fail)
            go_roundg (60 - (i + 1))
            case measure => omega
            case rel => exact ⟨i + 1, l2, f2, a, by go_num, by omega, rfl, hf2, ha, hl2, Lib.hid H.out.drop1⟩
    · obtain ⟨p, R, C, m, ok, hv, lR, lC⟩ := loadV_form l
      have S1 := Lib.hid (E_sload H.out HT.out 1 rfl HL.out (by omega))
      have S2 := Lib.hid fun As w' (h : Env w As w') (hk : As[1]? = some (rholdA sb' b' d' l f a)) => E_rsload h HT.out 1 hk HL.out (by omega)
      rw [hv] at S1 S2
      generalize loadL l = l2 at S1 S2
      generalize f + loadF l = f2 at S1 S2
      have LR := Lib.hid lR
      have LC := Lib.hid lC
      clear hv lR lC HL hf
      rcases hend with hend | ⟨rfl, hend⟩
      · have dk : decide ((i : Int) < (asks.length : Int)) = false := decide_eq_false (by omega)
        clear HA HS
        go_wp2_with (fail)
        refine S1.out.mono ?_
        rintro e w3 ⟨rfl, H', u⟩
        simp only [List.set_cons_succ, List.set_cons_zero] at H'
        replace H := Lib.hid H'
        clear H' u S1
        go_wp2_with (first
          | go_skip
          | ((with_reducible refine at_st 18 ?_); refine L_store_row 27 (.tmp 18) (.tmp 136) rfl (by kernel_rfl) (w3).heap.size 0 rfl (nums .u32 (List.replicate 32 0)).toList 27 (heap_old (Go.heap_alloc_last w3 _) _) (nums .u32 R) rfl 32 info_r32' (by rw [nums_size]; exact LR.out) (Nat.le_refl _) (nums_one _ _) ?_))
        intro wA b2 u2 z2
        rw [spl_all (by first | rfl | (simp only [Array.length_toList, nums_size, List.length_replicate]; exact LR.out))] at b2
        have A1 := Lib.hid b2
        have A2 : Hid (wA.heap[(w3).heap.size + 1]? = some (.cells (nums .u32 (List.replicate 5 0)).toList.toArray 28 (0, 0))) := Lib.hid (u2.keep (alloc_two w3 _ _) (by simp))
        have V2 := Lib.hid ((((Upd.refl [] w3).alloc _).alloc _).then u2 (fun x hx hlt => by simp at hx; omega))
        clear b2 u2 z2
        go_wp2_with (first
          | go_skip
          | ((with_reducible refine at_st 19 ?_); refine L_store_row 28 (.tmp 19) (.tmp 137) rfl (by kernel_rfl) ((w3).heap.size + 1) 0 rfl (nums .u32 (List.replicate 5 0)).toList 28 A2.out (nums .u32 C) rfl 5 info_r5 (by rw [nums_size]; exact LC.out) (Nat.le_refl _) (nums_one _ _) ?_))
        intro wB b3 u3 z3
        rw [spl_all (by first | rfl | (simp only [Array.length_toList, nums_size, List.length_replicate]; exact LC.out))] at b3
        have A3 := Lib.hid b3
        have A4 := Lib.hid (u3.keep A1.out (by simp))
        have V3 := Lib.hid (V2.out.then u3 (fun x hx hlt => by simp at hx; omega))
        have hA3 := lt_of_block A3.out
        clear b3 u3 z3 A1 A2 V2
        replace H := Lib.hid (H.out.add V3.out (blk2 (w3).heap.size (nums .u32 R).toList 27 ((w3).heap.size + 1) (nums .u32 C).toList 28) ⟨A4.out, A3.out⟩ (by simp [blk2]) (fun x hx => by simp [blk2] at hx; omega))
        clear A3 A4 V3 hA3
        go_wp2_with (fail)
        refine (S2.out _ _ H.out rfl).mono ?_
        rintro e w5 ⟨rfl, H', u⟩
        simp only [List.set_cons_succ, List.set_cons_zero] at H'
        replace H := Lib.hid H'
        clear H' u S2
        go_wp2_with (first
          | go_skip
          | ((with_reducible refine at_st 23 ?_); refine L_store_row 27 (.tmp 23) (.tmp 144) rfl (by kernel_rfl) (w5).heap.size 0 rfl (nums .u32 (List.replicate 32 0)).toList 27 (heap_old (Go.heap_alloc_last w5 _) _) (nums .u32 R) rfl 32 info_r32' (by rw [nums_size]; exact LR.out) (Nat.le_refl _) (nums_one _ _) ?_))
        intro wA b2 u2 z2
        rw [spl_all (by first | rfl | (simp only [Array.length_toList, nums_size, List.length_replicate]; exact LR.out))] at b2
        have A1 := Lib.hid b2
        have A2 : Hid (wA.heap[(w5).heap.size + 1]? = some (.cells (nums .u32 (List.replicate 5 0)).toList.toArray 28 (0, 0))) := Lib.hid (u2.keep (alloc_two w5 _ _) (by simp))
        have V2 := Lib.hid ((((Upd.refl [] w5).alloc _).alloc _).then u2 (fun x hx hlt => by simp at hx; omega))
        clear b2 u2 z2
        go_wp2_with (first
          | go_skip
          | ((with_reducible refine at_st 24 ?_); refine L_store_row 28 (.tmp 24) (.tmp 145) rfl (by kernel_rfl) ((w5).heap.size + 1) 0 rfl (nums .u32 (List.replicate 5 0)).toList 28 A2.out (nums .u32 C) rfl 5 info_r5 (by rw [nums_size]; exact LC.out) (Nat.le_refl _) (nums_one _ _) ?_))
        intro wB b3 u3 z3
        rw [spl_all (by first | rfl | (simp only [Array.length_toList, nums_size, List.length_replicate]; exact LC.out))] at b3
        have A3 := Lib.hid b3
        have A4 := Lib.hid (u3.keep A1.out (by simp))
        have V3 := Lib.hid (V2.out.then u3 (fun x hx hlt => by simp at hx; omega))
        have hA3 := lt_of_block A3.out
        clear b3 u3 z3 A1 A2 V2
        replace H := Lib.hid (H.out.add V3.out (blk2 (w5).heap.size (nums .u32 R).toList 27 ((w5).heap.size + 1) (nums .u32 C).toList 28) ⟨A4.out, A3.out⟩ (by simp [blk2]) (fun x hx => by simp [blk2] at hx; omega))
        clear A3 A4 V3 hA3
        have G2 := Lib.hid (H.out.ok 0 _ rfl)
        have G1 := Lib.hid (H.out.ok 1 _ rfl)
        have q1 := run_eql_nums 27 26 32 .u32 Tryd.underlying27 Tryd.underlying26 (fun w => by rfl) R R LR.out LR.out
        have q2 := run_eql_nums 28 26 5 .u32 Tryd.underlying28 Tryd.underlying26 (fun w => by rfl) C C LC.out LC.out
        rw [decide_eq_true rfl] at q1 q2
        go_wp2_with (first
          | go_skip
          | ((with_reducible refine at_op 152 ?_); refine L_load 27 (.tmp 18) rfl (by kernel_rfl) _ _ rfl (nums .u32 R) (row_range G1.out.1) Tryd.underlying27 rfl 32 info_r32' (by rw [nums_size]; exact LR.out) ?_)
          | ((with_reducible refine at_op 153 ?_); refine L_load 27 (.tmp 23) rfl (by kernel_rfl) _ _ rfl (nums .u32 R) (row_range G2.out.1) Tryd.underlying27 rfl 32 info_r32' (by rw [nums_size]; exact LR.out) ?_)
          | ((with_reducible refine at_op 157 ?_); refine L_load 28 (.tmp 19) rfl (by kernel_rfl) _ _ rfl (nums .u32 C) (row_range G1.out.2) Tryd.underlying28 rfl 5 info_r5 (by rw [nums_size]; exact LC.out) ?_)
          | ((with_reducible refine at_op 158 ?_); refine L_load 28 (.tmp 24) rfl (by kernel_rfl) _ _ rfl (nums .u32 C) (row_range G2.out.2) Tryd.underlying28 rfl 5 info_r5 (by rw [nums_size]; exact LC.out) ?_))
        go_ret
        exact ⟨rfl, by rw [HD.out]; exact HU.out _ _ H.out⟩
      · have dk : decide (((60 : Nat) : Int) < (asks.length : Int)) = true := decide_eq_true (by omega)
        have dk' : decide ((60 : Int) < (asks.length : Int)) = true := decide_eq_true (by omega)
        clear HA HS
        go_wp2_with (fail)
        refine S1.out.mono ?_
        rintro e w3 ⟨rfl, H', u⟩
        simp only [List.set_cons_succ, List.set_cons_zero] at H'
        replace H := Lib.hid H'
        clear H' u S1
        go_wp2_with (first
          | go_skip
          | ((with_reducible refine at_st 18 ?_); refine L_store_row 27 (.tmp 18) (.tmp 136) rfl (by kernel_rfl) (w3).heap.size 0 rfl (nums .u32 (List.replicate 32 0)).toList 27 (heap_old (Go.heap_alloc_last w3 _) _) (nums .u32 R) rfl 32 info_r32' (by rw [nums_size]; exact LR.out) (Nat.le_refl _) (nums_one _ _) ?_))
        intro wA b2 u2 z2
        rw [spl_all (by first | rfl | (simp only [Array.length_toList, nums_size, List.length_replicate]; exact LR.out))] at b2
        have A1 := Lib.hid b2
        have A2 : Hid (wA.heap[(w3).heap.size + 1]? = some (.cells (nums .u32 (List.replicate 5 0)).toList.toArray 28 (0, 0))) := Lib.hid (u2.keep (alloc_two w3 _ _) (by simp))
        have V2 := Lib.hid ((((Upd.refl [] w3).alloc _).alloc _).then u2 (fun x hx hlt => by simp at hx; omega))
        clear b2 u2 z2
        go_wp2_with (first
          | go_skip
          | ((with_reducible refine at_st 19 ?_); refine L_store_row 28 (.tmp 19) (.tmp 137) rfl (by kernel_rfl) ((w3).heap.size + 1) 0 rfl (nums .u32 (List.replicate 5 0)).toList 28 A2.out (nums .u32 C) rfl 5 info_r5 (by rw [nums_size]; exact LC.out) (Nat.le_refl _) (nums_one _ _) ?_))
        intro wB b3 u3 z3
        rw [spl_all (by first | rfl | (simp only [Array.length_toList, nums_size, List.length_replicate]; exact LC.out))] at b3
        have A3 := Lib.hid b3
        have A4 := Lib.hid (u3.keep A1.out (by simp))
        have V3 := Lib.hid (V2.out.then u3 (fun x hx hlt => by simp at hx; omega))
        have hA3 := lt_of_block A3.out
        clear b3 u3 z3 A1 A2 V2
        replace H := Lib.hid (H.out.add V3.out (blk2 (w3).heap.size (nums .u32 R).toList 27 ((w3).heap.size + 1) (nums .u32 C).toList 28) ⟨A4.out, A3.out⟩ (by simp [blk2]) (fun x hx => by simp [blk2] at hx; omega))
        clear A3 A4 V3 hA3
        go_wp2_with (fail)
        refine (S2.out _ _ H.out rfl).mono ?_
        rintro e w5 ⟨rfl, H', u⟩
        simp only [List.set_cons_succ, List.set_cons_zero] at H'
        replace H := Lib.hid H'
        clear H' u S2
        go_wp2_with (first
          | go_skip
          | ((with_reducible refine at_st 23 ?_); refine L_store_row 27 (.tmp 23) (.tmp 144) rfl (by kernel_rfl) (w5).heap.size 0 rfl (nums .u32 (List.replicate 32 0)).toList 27 (heap_old (Go.heap_alloc_last w5 _) _) (nums .u32 R) rfl 32 info_r32' (by rw [nums_size]; exact LR.out) (Nat.le_refl _) (nums_one _ _) ?_))
        intro wA b2 u2 z2
        rw [spl_all (by first | rfl | (simp only [Array.length_toList, nums_size, List.length_replicate]; exact LR.out))] at b2
        have A1 := Lib.hid b2
        have A2 : Hid (wA.heap[(w5).heap.size + 1]? = some (.cells (nums .u32 (List.replicate 5 0)).toList.toArray 28 (0, 0))) := Lib.hid (u2.keep (alloc_two w5 _ _) (by simp))
        have V2 := Lib.hid ((((Upd.refl [] w5).alloc _).alloc _).then u2 (fun x hx hlt => by simp at hx; omega))
        clear b2 u2 z2
        go_wp2_with (first
          | go_skip
          | ((with_reducible refine at_st 24 ?_); refine L_store_row 28 (.tmp 24) (.tmp 145) rfl (by kernel_rfl) ((w5).heap.size + 1) 0 rfl (nums .u32 (List.replicate 5 0)).toList 28 A2.out (nums .u32 C) rfl 5 info_r5 (by rw [nums_size]; exact LC.out) (Nat.le_refl _) (nums_one _ _) ?_))
        intro wB b3 u3 z3
        rw [spl_all (by first | rfl | (simp only [Array.length_toList, nums_size, List.length_replicate]; exact LC.out))] at b3
        have A3 := Lib.hid b3
        have A4 := Lib.hid (u3.keep A1.out (by simp))
        have V3 := Lib.hid (V2.out.then u3 (fun x hx hlt => by simp at hx; omega))
        have hA3 := lt_of_block A3.out
        clear b3 u3 z3 A1 A2 V2
        replace H := Lib.hid (H.out.add V3.out (blk2 (w5).heap.size (nums .u32 R).toList 27 ((w5).heap.size + 1) (nums .u32 C).toList 28) ⟨A4.out, A3.out⟩ (by simp [blk2]) (fun x hx => by simp [blk2] at hx; omega))
        clear A3 A4 V3 hA3
        have G2 := Lib.hid (H.out.ok 0 _ rfl)
        have G1 := Lib.hid (H.out.ok 1 _ rfl)
        have q1 := run_eql_nums 27 26 32 .u32 Tryd.underlying27 Tryd.underlying26 (fun w => by rfl) R R LR.out LR.out
        have q2 := run_eql_nums 28 26 5 .u32 Tryd.underlying28 Tryd.underlying26 (fun w => by rfl) C C LC.out LC.out
        rw [decide_eq_true rfl] at q1 q2
        go_wp2_with (first
          | go_skip
          | ((with_reducible refine at_op 152 ?_); refine L_load 27 (.tmp 18) rfl (by kernel_rfl) _ _ rfl (nums .u32 R) (row_range G1.out.1) Tryd.underlying27 rfl 32 info_r32' (by rw [nums_size]; exact LR.out) ?_)
          | ((with_reducible refine at_op 153 ?_); refine L_load 27 (.tmp 23) rfl (by kernel_rfl) _ _ rfl (nums .u32 R) (row_range G2.out.1) Tryd.underlying27 rfl 32 info_r32' (by rw [nums_size]; exact LR.out) ?_)
          | ((with_reducible refine at_op 157 ?_); refine L_load 28 (.tmp 19) rfl (by kernel_rfl) _ _ rfl (nums .u32 C) (row_range G1.out.2) Tryd.underlying28 rfl 5 info_r5 (by rw [nums_size]; exact LC.out) ?_)
          | ((with_reducible refine at_op 158 ?_); refine L_load 28 (.tmp 24) rfl (by kernel_rfl) _ _ rfl (nums .u32 C) (row_range G2.out.2) Tryd.underlying28 rfl 5 info_r5 (by rw [nums_size]; exact LC.out) ?_))
        go_ret
        exact ⟨rfl, by rw [HD.out]; exact HU.out _ _ H.out⟩
end Go.Proofs.YthoaofbhppdfoaaDoor
