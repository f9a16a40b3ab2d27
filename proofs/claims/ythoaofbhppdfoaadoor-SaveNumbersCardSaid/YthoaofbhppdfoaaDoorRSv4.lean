/- The document's checkpoints, in memory: Save. -/
import Derived.Test.YthoaofbhppdfoaaDoorRSv3
namespace Go.Proofs.YthoaofbhppdfoaaDoor
open Go.RowKit Go.Dio
set_option linter.unusedSimpArgs false
set_option linter.unusedVariables false

theorem row_src {w : World} {b : Nat} {R : List Nat} {T : TypeId} {fr : Nat × Nat} (h : w.heap[b]? = some (.cells (nums .u32 R) T fr)) (o : Nat) : SrcAt w (some ⟨b, o, none⟩) (vals .u32 (R.drop o)) := fun _ =>
  ⟨b, o, rfl, fun j v hv => by
    rw [cell_of_row w b _ _ T fr h]
    have hj : o + j < R.length := by
      rcases Nat.lt_or_ge (o + j) R.length with h1 | h1
      · exact h1
      · rw [List.getElem?_eq_none (by simp [vals]; omega)] at hv; cases hv
    have := nums_nth .u32 R (o + j) hj
    rw [this]
    simp [vals, hj] at hv
    rw [← hv, nth_eq _ _ hj]⟩
set_option maxRecDepth 20000 in
set_option maxHeartbeats 2000000 in
/-- The document's Save. -/
theorem RSSave_calls (sb b d : Nat) (l : List Nat) (f a pc : Nat) (regs csrs : List Nat) (n : Int) (w : World) (h : RHoldAt sb b d l f a w) (hl : l.length = 79) (hf : f < 9223372036854775806)
    (hr : regs.length = 32) (hc : csrs.length = 5) (hp : pc < 2 ^ 32) (hrs : ∀ x ∈ regs, x < 2 ^ 32) (hcs : ∀ x ∈ csrs, x < 2 ^ 32) (hn0 : -9223372036854775808 ≤ n) (hn1 : n ≤ 9223372036854775807) :
    Calls Tryd.prog 16 #[.pointer (some ⟨sb, 0, none⟩), .int .u32 (pc : Int), .agg (nums .u32 regs), .agg (nums .u32 csrs), .int .i64 n] w fun e w' => e = .returned (.tuple #[]) ∧ RHoldAt sb b d (saveL l pc regs csrs n) (f + getF l 78) a w' ∧ Upd [b, d] w w' := by
  have hrl := nums_size .u32 regs
  have hcl := nums_size .u32 csrs
  rw [hr] at hrl
  rw [hc] at hcl
  have hy : (peekL l 78).1 = (dec (nth l 78)).1 := by rw [show (78 : Int) = ((78 : Nat) : Int) from rfl, peekL, inn_of (by omega) (by omega)]; rfl
  have G : ∀ w1, RHoldAt sb b d l f a w1 → Calls Tryd.prog 24 #[.pointer (some ⟨b, 0, none⟩), .int .i64 78] w1 fun e w' => e = .returned (.tuple #[.int .u32 ((dec (nth l 78)).1 : Int), .int .i64 ((peekL l 78).2 : Int)]) ∧ RHoldAt sb b d (getL l 78) (f + getF l 78) a w' ∧ Upd [b, d] w1 w' := fun w1 h => by
    rw [← hy]; exact (RGet_calls _ b d l f 78 w1 h.row hf).mono fun e w' ⟨he, hr, hu⟩ => ⟨he, h.step hr hu (by simp), hu⟩
  generalize (peekL l 78).2 = st at G
  have H := Lib.hid h
  have hylt := dec_lt32 (nth l 78)
  have hm := and_one32 _ hylt
  have hK : latP l = (dec (nth l 78)).1 % 2 := rfl
  have hV : saveV pc regs csrs n = (pc :: (regs.tail ++ csrs ++ [cntP n])) ++ [markP (nth (pc :: (regs.tail ++ csrs ++ [cntP n])) 37)] := by
    have h37 : nth (pc :: (regs.tail ++ csrs ++ [cntP n])) 37 = cntP n := by
      rw [show (37 : Nat) = 36 + 1 from rfl, nth_cons, nth_app_right (by simp [hr, hc])]
      simp [hr, hc, nth]
    rw [h37]
    simp [saveV]
  have hR2 : saveL l pc regs csrs n = putL (puts (getL l 78) (39 * (1 - latP l)) (saveV pc regs csrs n) 39) 78 (1 - latP l) := rfl
  rw [hV, hK] at hR2
  generalize saveL l pc regs csrs n = R at hR2 ⊢
  generalize (dec (nth l 78)).1 = y at G hm hylt hR2
  have hm2 : y % 2 < 2 := Nat.mod_lt _ (by decide)
  generalize y % 2 = m at hm hR2 hm2
  obtain ⟨K, hKm⟩ : ∃ K, K = 1 - m := ⟨_, rfl⟩
  rw [← hKm] at hR2
  have hKz : 1 - (m : Int) = (K : Int) := by omega
  have hK1 : K ≤ 1 := by omega
  clear hKm hK hy h hV
  obtain ⟨N, hN⟩ : ∃ N, N = cntP n := ⟨_, rfl⟩
  have hN31 : N < 2 ^ 31 := by rw [hN]; exact cntP_lt n
  rw [← hN] at hR2
  have hmin := min2_nat .i64 n 2147483647 (min n 2147483647) rfl
  have hmax := max2_nat .i64 (min n 2147483647) 0 (N : Int) (by rw [hN]; unfold cntP; omega)
  generalize min n 2147483647 = mn at hmin hmax
  clear hN
  have lV : (pc :: (regs.tail ++ csrs ++ [N])).length = 38 := by simp [hr, hc]
  have hVs : ∀ i, nth (pc :: (regs.tail ++ csrs ++ [N])) i < 2 ^ 32 := fun i => nth_lt (by
    intro x hx
    rcases List.mem_cons.1 hx with rfl | hx
    · exact hp
    · rcases List.mem_append.1 hx with hx | hx
      · rcases List.mem_append.1 hx with hx | hx
        · exact hrs x (List.mem_of_mem_tail hx)
        · exact hcs x hx
      · simp at hx; omega) (by decide) i
  have l1l : (getL l 78).length = 79 := by rw [getL_len, hl]
  generalize getL l 78 = l1 at G hR2 l1l
  generalize f + getF l 78 = f1 at G ⊢
  have HRR := Lib.hid hR2
  have HLV := Lib.hid lV
  have HVS := Lib.hid hVs
  have HR := Lib.hid hr
  have HC := Lib.hid hc
  have GET := Lib.hid G
  have HD := Lib.hid (show sb < w.heap.size ∧ b < w.heap.size ∧ d < w.heap.size from ⟨H.out.slt, H.out.row.blt, H.out.row.dlt⟩)
  have DBL := Lib.hid H.out.row.tz.lt
  clear hR2 lV hVs hr hc hrs hcs hp hylt G l1l hl
  go_enter Tryd.func16, Tryd.ntmps16
  go_upto_region 1 with (fail)
  have B1 : Hid (((w.alloc (.cells (nums .u32 regs) 27)).alloc (.cells (nums .u32 csrs) 28)).heap[w.heap.size]? = some (.cells (nums .u32 regs) 27 (0, 0))) := Lib.hid (heap_old (Go.heap_alloc_last w _) _)
  have B2 : Hid (((w.alloc (.cells (nums .u32 regs) 27)).alloc (.cells (nums .u32 csrs) 28)).heap[w.heap.size + 1]? = some (.cells (nums .u32 csrs) 28 (0, 0))) := Lib.hid (alloc_two w _ _)
  have U2 : Hid (Upd [] w ((w.alloc (.cells (nums .u32 regs) 27)).alloc (.cells (nums .u32 csrs) 28))) := Lib.hid (((Upd.refl [] w).alloc _).alloc _)
  generalize (w.alloc (.cells (nums .u32 regs) 27)).alloc (.cells (nums .u32 csrs) 28) = w2 at B1 B2 U2 ⊢
  generalize hrb : w.heap.size = rb at B1 B2 ⊢
  have HRB := Lib.hid hrb
  clear hrb
  have hs2 := U2.out.size
  go_wp2_with ((at_builtin; refine L_append _ (.tmp 15) (.tmp 16) 51 rfl (by kernel_rfl) w2.heap.size 26 _ 1 4 Tryd.underlying51 infoS_w32 rfl (by omega) (.slice (some ⟨w2.heap.size, 0, none⟩) 1 1) 1 (vals .u32 [pc]) rfl (World.ownsRow_lit w2 #[.int .u32 (pc : Int)] 1 (Nat.le_refl _) (by simp [maxLen]) rfl) (some ⟨rb, 1, none⟩) 31 31 (vals .u32 (regs.drop 1)) rfl (by rw [vals_length, List.length_drop, HR.out]) (row_src ((Upd.refl [] w2).alloc _ |>.keep B1.out (by simp)) 1) (vals_one _ _) (by simp [maxLen]) (by omega) (by simp) ?_))
  intro v1 w3 own1 g1 at1
  have U3 := Lib.hid (((Upd.refl [] w2).alloc (.cells #[.int .u32 (pc : Int)] 26)).grown g1 (fun g hg hlt => by simp [Value.ownBlock] at hg; omega))
  have O1 := Lib.hid own1
  clear own1 g1 at1
  have low1 : Hid (∀ g, v1.ownBlock = some g → w2.heap.size ≤ g) := Lib.hid (fun g hg => (O1.out.lt g hg).1)
  go_wp2_with ((at_builtin; refine L_append _ (.tmp 18) (.tmp 19) 51 rfl (by kernel_rfl) w2.heap.size 26 _ 1 4 Tryd.underlying51 infoS_w32 rfl (by omega) v1 32 (vals .u32 [pc] ++ vals .u32 regs.tail) rfl O1.out (some ⟨rb + 1, 0, none⟩) 5 5 (vals .u32 (csrs.drop 0)) rfl (by rw [vals_length, List.length_drop, HC.out]) (row_src (U3.out.keep B2.out (by simp)) 0) (vals_one _ _) (by simp [maxLen]) (by omega) U3.out.size ?_))
  intro v2 w4 own2 g2 at2
  have U4 := Lib.hid (U3.out.grown g2 (fun g hg hlt => by have := low1.out g hg; omega))
  have O2 := Lib.hid own2
  clear own2 g2 at2
  have low2 : Hid (∀ g, v2.ownBlock = some g → w2.heap.size ≤ g) := Lib.hid (fun g hg => (O2.out.lt g hg).1)
  have U4a := Lib.hid (U4.out.alloc (.cells #[.int .u32 (N : Int)] 26))
  go_wp2_with ((at_builtin; refine L_append _ (.tmp 20) (.tmp 25) 51 rfl (by kernel_rfl) w2.heap.size 26 _ 1 4 Tryd.underlying51 infoS_w32 rfl (by omega) v2 37 (vals .u32 [pc] ++ vals .u32 regs.tail ++ vals .u32 (csrs.drop 0)) rfl (O2.out.alloc _) (some ⟨w4.heap.size, 0, none⟩) 1 1 [.int .u32 (N : Int)] rfl rfl (srcAt_newS w4 [.int .u32 (N : Int)] _) (by simp [Value.oneCell']) (by simp [maxLen]) (by omega) U4a.out.size ?_))
  intro v3 w5 own3 g3 at3
  have U5 := Lib.hid (U4a.out.grown g3 (fun g hg hlt => by have := low2.out g hg; omega))
  have O3 : Hid (w5.ownsRow w2.heap.size 26 1 v3 38 (vals .u32 (pc :: (regs.tail ++ csrs ++ [N])))) := Lib.hid (by
    have e : vals .u32 (pc :: (regs.tail ++ csrs ++ [N])) = vals .u32 [pc] ++ (vals .u32 regs.tail ++ (vals .u32 csrs ++ [.int .u32 (N : Int)])) := by simp [vals]
    rw [e]; exact own3)
  clear own3 g3 at3 O1 O2 low1 low2
  obtain ⟨g, cp, rfl, hg1, hcp, hsl⟩ := slAt_own O3.out (by decide)
  generalize pc :: (regs.tail ++ csrs ++ [N]) = V at HRR HLV HVS hsl
  have UW := Lib.hid (U2.out.trans U5.out)
  have H5 := Lib.hid (H.out.upd0 UW.out)
  have SL := Lib.hid hsl
  have hgd : g ≠ d ∧ g ≠ b := by have := HD.out; have := HRB.out; omega
  clear O3 U3 U4 U4a U5 hsl H B1 B2
  have c0 : w5.cell? ⟨sb, 0, none⟩ = some (.pointer (some ⟨b, 0, none⟩)) := by rw [cells_of H5.out.cell]; rfl
  go_wp2_with (fail)
  refine (GET.out w5 H5.out).mono ?_
  rintro e w6 ⟨rfl, h6, u6⟩
  have H6 := Lib.hid h6
  have S6 := Lib.hid (SL.out.upd u6 (by simp; omega))
  have U6 : Hid (Upd [b, d] w w6) := Lib.hid ((UW.out.mono (fun x hx _ => by simp at hx)).trans u6)
  clear h6 u6 c0 SL H5 UW
  go_wp2_with (fail)
  refine (rput_calls sb b d l1 f1 a K V g cp w6 H6.out hK1 S6.out HLV.out HVS.out hgd.1).mono ?_
  rintro e w7 ⟨rfl, h7, u7⟩
  have H7 := Lib.hid h7
  have U7 := Lib.hid (U6.out.trans (u7.mono (by simp)))
  have c0 : w7.cell? ⟨sb, 0, none⟩ = some (.pointer (some ⟨b, 0, none⟩)) := by rw [cells_of h7.cell]; rfl
  have hlk : K < 2 ^ 32 := by omega
  clear h7 u7 H6 S6 U6
  go_wp2_with (fail)
  refine (RPut_calls _ b d _ f1 78 K w7 H7.out.row hlk).mono ?_
  rintro e w8 ⟨rfl, r8, u8⟩
  have H8 := Lib.hid (H7.out.step r8 u8 (by simp))
  have U8 := Lib.hid (U7.out.trans (u8.mono (by simp)))
  clear r8 u8 c0
  go_wp2_with (fail)
  go_end0
  refine ⟨rfl, ?_, U8.out⟩
  rw [HRR.out]
  exact H8.out
end Go.Proofs.YthoaofbhppdfoaaDoor
