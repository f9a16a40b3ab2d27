/- Checkpoints, in memory: New, Save. -/
import Derived.Test.YthoaofbhppdfoaaDoorHold
import Derived.Test.YthoaofbhppdfoaaDoorSvM
namespace Go.Proofs.YthoaofbhppdfoaaDoor
open Go.RowKit Go.Dio
set_option linter.unusedSimpArgs false
set_option linter.unusedVariables false

def newK : Nat → List Nat
  | 0 => List.replicate 79 0
  | 1 => putL (List.replicate 79 0) 38 1526595584
  | _ => newS
theorem newK_len (k : Nat) : (newK k).length = 79 := by
  unfold newK; split <;> simp [putL_len, newS_len]
set_option maxRecDepth 20000 in
set_option maxHeartbeats 1000000 in
theorem SNew_calls (w : World) (hT : Tz w) :
    Calls Tryd.prog 7 #[] w fun e w' => e = .returned (.pointer (some ⟨w.heap.size + 2, 0, none⟩)) ∧ HoldAt 47 (w.heap.size + 2) (w.heap.size + 1) w.heap.size newS 0 0 w' ∧ Upd [] w w' := by
  have hN : Calls Tryd.prog 18 #[.int .i64 79] w fun e w' => e = .returned (.pointer (some ⟨w.heap.size + 1, 0, none⟩)) ∧ RowAt 66 (w.heap.size + 1) w.heap.size (List.replicate 79 0) 0 w' ∧ Upd [] w w' ∧ w'.heap.size = w.heap.size + 2 := New_size 79 79 w hT (by decide)
  have N := Lib.hid hN
  have hz0 := hT.lt
  clear hN hT
  go_enter Tryd.func7, Tryd.ntmps7
  go_wp2_with (fail)
  refine N.out.mono ?_
  rintro e w1 ⟨rfl, r, u, hz⟩
  have R1 := Lib.hid r
  have U1 := Lib.hid u
  have HZ := Lib.hid hz
  clear r u hz
  go_wp2_with (fail)
  generalize hmb : w1.heap.size = mb
  have H0 : Hid (HoldAt 47 mb (w.heap.size + 1) w.heap.size (newK 0) 0 0 (w1.alloc (.cells #[.pointer (some ⟨w.heap.size + 1, 0, none⟩), .int .i64 0] 47))) := by
    have hz := HZ.out
    refine Lib.hid ⟨?_, R1.out.upd0 ((Upd.refl _ _).alloc _), by omega, by omega, by omega⟩
    rw [← hmb]; exact Go.heap_alloc_last w1 _
  have U2 := Lib.hid (U1.out.alloc (.cells #[.pointer (some ⟨w.heap.size + 1, 0, none⟩), .int .i64 0] 47))
  have HMB := Lib.hid (show mb = w.heap.size + 2 by rw [← hmb]; exact HZ.out)
  clear hmb HZ R1 U1
  generalize w1.alloc (.cells #[.pointer (some ⟨w.heap.size + 1, 0, none⟩), .int .i64 0] 47) = w2 at H0 U2 ⊢
  go_loopg [6] 2 (fun g v6 wl => ∃ k : Nat, v6 = .int .i64 (k : Int) ∧ k ≤ 2 ∧ g = 2 - k ∧ Hid (HoldAt 47 mb (w.heap.size + 1) w.heap.size (newK k) 0 0 wl) ∧ Hid (Upd [] w wl))
  case atStart => exact ⟨0, rfl, by omega, rfl, H0, U2⟩
  case round =>
    clear H0 U2
    obtain ⟨k, rfl, hk, hg, H, U⟩ := hrel
    have c0 : wr.cell? ⟨mb, 0, none⟩ = some (.pointer (some ⟨w.heap.size + 1, 0, none⟩)) := by rw [cells_of H.out.cell]; rfl
    have P := Lib.hid fun z hz => Put_calls _ _ _ (newK k) 0 z 1526595584 wr H.out.row hz
    rcases (by omega : k = 0 ∨ k = 1 ∨ k = 2) with rfl | rfl | rfl
    · go_wp2_with (fail)
      refine (P.out 38 (by decide)).mono ?_
      rintro e w3 ⟨rfl, r, u⟩
      have H3 := Lib.hid (H.out.step r u (by simp))
      have U3 := Lib.hid (U.out.then u (fun x hx hlt => by simp at hx; omega))
      clear r u P c0
      go_wp2_with (fail)
      go_roundg 1
      case measure => omega
      case rel => exact ⟨1, by go_num, by omega, rfl, H3, U3⟩
    · go_wp2_with (fail)
      refine (P.out 77 (by decide)).mono ?_
      rintro e w3 ⟨rfl, r, u⟩
      have H3 := Lib.hid (H.out.step r u (by simp))
      have U3 := Lib.hid (U.out.then u (fun x hx hlt => by simp at hx; omega))
      clear r u P c0
      go_wp2_with (fail)
      go_roundg 0
      case measure => omega
      case rel => exact ⟨2, by go_num, by omega, rfl, H3, U3⟩
    · go_wp2_with (fail)
      go_ret
      have hmb := HMB.out
      subst hmb
      exact ⟨rfl, H.out, U.out⟩

theorem index_r5 (cs : List Nat) (hc : cs.length = 5) (i : Nat) (hi : i < 5) (w : World) : (Instr.index 28 (.agg (nums .u32 cs)) (.int .i64 (i : Int))).run Tryd.prog w = .ok (.int .u32 ((nth cs i : Nat) : Int)) w :=
  run_index_nums 28 26 5 .u32 cs i Tryd.underlying28 (by intro w; simp [go_sem]) (by intro w; simp [go_sem]) hc hi w
theorem info_r5 : (Tryd.prog.info? 28).map (·.size) = some 5 := by kernel_rfl
theorem info_r32' : (Tryd.prog.info? 27).map (·.size) = some 32 := by kernel_rfl
theorem and_one32 (n : Nat) (h : n < 2 ^ 32) : bits .and .u32 (n : Int) 1 = ((n % 2 : Nat) : Int) := by
  have e : (1 : Int) = ((2 ^ 1 - 1 : Nat) : Int) := by decide
  rw [e, and32 n _ h (by decide), Nat.and_two_pow_sub_one_eq_mod]

/-- One word of a checkpoint is put. -/
theorem save_put {T : TypeId} {sb b d : Nat} {l V : List Nat} {f a i v K : Nat} {z : Int} {w : World} (h : HoldAt T sb b d (puts l (39 * K) V i) f a w) (hv : nth V i = v) (hz : z = (K : Int) * 39 + (i : Int)) (hlt : v < 2 ^ 32) :
    Calls Tryd.prog 19 #[.pointer (some ⟨b, 0, none⟩), .int .i64 z, .int .u32 (v : Int)] w fun e w' => e = .returned (.bool (inn (puts l (39 * K) V i) z)) ∧ HoldAt T sb b d (puts l (39 * K) V (i + 1)) f a w' ∧ Upd [d] w w' :=
  (Put_calls _ b d _ f z v w h.row hlt).mono fun e w' ⟨he, hr, hu⟩ => ⟨he, by
    have e2 : puts l (39 * K) V (i + 1) = putL (puts l (39 * K) V i) z v := by
      rw [puts, hv, show ((39 * K + i : Nat) : Int) = z by omega]
    rw [e2]; exact h.step hr hu (by simp), hu⟩

set_option maxRecDepth 20000 in
set_option maxHeartbeats 2000000 in
theorem SSave_calls (T : TypeId) (sb b d : Nat) (l : List Nat) (f a pc : Nat) (regs csrs : List Nat) (n : Int) (w : World) (h : HoldAt T sb b d l f a w) (hl : l.length = 79) (hf : f < 9223372036854775806)
    (hr : regs.length = 32) (hc : csrs.length = 5) (hp : pc < 2 ^ 32) (hrs : ∀ x ∈ regs, x < 2 ^ 32) (hcs : ∀ x ∈ csrs, x < 2 ^ 32) (hn0 : -9223372036854775808 ≤ n) (hn1 : n ≤ 9223372036854775807) :
    Calls Tryd.prog 15 #[.pointer (some ⟨sb, 0, none⟩), .int .u32 (pc : Int), .agg (nums .u32 regs), .agg (nums .u32 csrs), .int .i64 n] w fun e w' => e = .returned (.tuple #[]) ∧ HoldAt T sb b d (saveL l pc regs csrs n) (f + getF l 78) a w' ∧ Upd [b, d] w w' := by
  have HV0 := saveV_0 pc regs csrs n
  have HVr := Lib.hid fun i (hi : i < 31) => saveV_reg pc (csrs := csrs) n hr hi
  have HVc := Lib.hid fun i (hi : i < 5) => saveV_csr pc n hr hc hi
  have HVn := saveV_n pc n hr hc
  have hVs := Lib.hid fun i => nth_lt (saveV_lt (n := n) hp hrs hcs) (by decide) i
  have hrl := nums_size .u32 regs
  have hcl := nums_size .u32 csrs
  have IX := Lib.hid (index_r5 csrs hc)
  have HR := Lib.hid hr
  have HC := Lib.hid hc
  have hy : (peekL l 78).1 = (dec (nth l 78)).1 := by rw [show (78 : Int) = ((78 : Nat) : Int) from rfl, peekL, inn_of (by omega) (by omega)]; rfl
  have G : ∀ w1, HoldAt T sb b d l f a w1 → Calls Tryd.prog 22 #[.pointer (some ⟨b, 0, none⟩), .int .i64 78] w1 fun e w' => e = .returned (.tuple #[.int .u32 ((dec (nth l 78)).1 : Int), .int .i64 ((peekL l 78).2 : Int)]) ∧ HoldAt T sb b d (getL l 78) (f + getF l 78) a w' ∧ Upd [b, d] w1 w' := fun w1 h => by
    rw [← hy]; exact (Get_calls _ b d l f 78 w1 h.row hf).mono fun e w' ⟨he, hr, hu⟩ => ⟨he, h.step hr hu (by simp), hu⟩
  generalize (peekL l 78).2 = st at G
  have H := Lib.hid h
  have hylt := dec_lt32 (nth l 78)
  have hm := and_one32 _ hylt
  have hK : latP l = (dec (nth l 78)).1 % 2 := rfl
  obtain ⟨R, hR⟩ : ∃ R, R = saveL l pc regs csrs n := ⟨_, rfl⟩
  have hR2 := hR
  unfold saveL at hR2
  rw [← hR]
  clear hR
  rw [hK] at hR2
  generalize (dec (nth l 78)).1 = y at G hm hylt hR2
  have hm2 : y % 2 < 2 := Nat.mod_lt _ (by decide)
  generalize y % 2 = m at hm hR2 hm2
  obtain ⟨K, hKm⟩ : ∃ K, K = 1 - m := ⟨_, rfl⟩
  rw [← hKm] at hR2
  have hKz : 1 - (m : Int) = (K : Int) := by omega
  have hK1 : K ≤ 1 := by omega
  clear hKm hK hy h
  obtain ⟨N, hN⟩ : ∃ N, N = cntP n := ⟨_, rfl⟩
  have hN31 : N < 2 ^ 31 := by rw [hN]; exact cntP_lt n
  rw [← hN] at HVn
  have h16 := and65535 N (by omega)
  have hor := or_mark (N % 65536) (by omega)
  have hmk : markP N = 1526595584 + N % 65536 := rfl
  rw [hmk] at HVn
  generalize N % 65536 = N16 at h16 hor HVn
  generalize 1526595584 + N16 = MK at hor HVn
  have hmin := min2_nat .i64 n 2147483647 (min n 2147483647) rfl
  have hmax := max2_nat .i64 0 (min n 2147483647) (N : Int) (by rw [hN]; unfold cntP; omega)
  generalize min n 2147483647 = mn at hmin hmax
  clear hN hmk
  generalize saveV pc regs csrs n = V at HV0 HVr HVc HVn hVs hR2
  have l1l : (getL l 78).length = 79 := by rw [getL_len, hl]
  generalize getL l 78 = l1 at G hR2 l1l
  generalize f + getF l 78 = f1 at G ⊢
  have HRR := Lib.hid hR2
  have HVN := Lib.hid HVn
  have HV0 := Lib.hid HV0
  have hMK : MK < 2 ^ 32 := by rw [← HVN.out.2]; exact hVs.out 38
  have hsq := H.out.slt
  have hbq := H.out.row.blt
  have hdq := H.out.row.dlt
  replace G := Lib.hid G
  have c0 : w.cell? ⟨sb, 0, none⟩ = some (.pointer (some ⟨b, 0, none⟩)) := by rw [cells_of H.out.cell]; rfl
  clear HVn hR2 l1l
  go_enter Tryd.func15, Tryd.ntmps15
  go_wp2_with (fail)
  have B1 : Hid (((w.alloc (.cells (nums .u32 regs) 27)).alloc (.cells (nums .u32 csrs) 28)).heap[w.heap.size]? = some (.cells (nums .u32 regs) 27 (0, 0))) := Lib.hid (heap_old (Go.heap_alloc_last w _) _)
  have B2 : Hid (((w.alloc (.cells (nums .u32 regs) 27)).alloc (.cells (nums .u32 csrs) 28)).heap[w.heap.size + 1]? = some (.cells (nums .u32 csrs) 28 (0, 0))) := Lib.hid (alloc_two w _ _)
  have U := Lib.hid (((Upd.refl [b, d] w).alloc (.cells (nums .u32 regs) 27)).alloc (.cells (nums .u32 csrs) 28))
  have H0 := Lib.hid (H.out.upd0 (((Upd.refl [] w).alloc (.cells (nums .u32 regs) 27)).alloc (.cells (nums .u32 csrs) 28)))
  generalize (w.alloc (.cells (nums .u32 regs) 27)).alloc (.cells (nums .u32 csrs) 28) = W at B1 B2 U H0 ⊢
  obtain ⟨q, hq⟩ : ∃ q, q = w.heap.size := ⟨_, rfl⟩
  rw [← hq] at hsq hbq hdq B1 B2 ⊢
  clear hq H c0
  refine (G.out _ H0.out).mono ?_
  rintro e w1 ⟨rfl, h', u⟩
  have H : Hid (HoldAt T sb b d (puts l1 (39 * K) V 0) f1 a w1) := Lib.hid h'
  have U2 : Upd [b, d] w1 w1 := Upd.refl _ _
  replace U := Lib.hid (U.out.trans u)
  replace B1 := Lib.hid (u.keep B1.out (by simp; omega))
  replace B2 := Lib.hid (u.keep B2.out (by simp; omega))
  have c0 : w1.cell? ⟨sb, 0, none⟩ = some (.pointer (some ⟨b, 0, none⟩)) := by rw [cells_of H.out.cell]; rfl
  clear h' u U2
  clear G H0
  go_wp2_with (fail)
  refine (save_put H.out HV0.out (by omega) hp).mono ?_
  rintro e w2 ⟨rfl, h', u⟩
  replace H := Lib.hid h'
  replace U := Lib.hid (U.out.trans (u.mono (by simp)))
  replace B1 := Lib.hid (u.keep B1.out (by simp; omega))
  replace B2 := Lib.hid (u.keep B2.out (by simp; omega))
  clear h' u c0
  go_wp2_with (fail)
  go_loopg [47] 31 (fun g v47 wl => ∃ i : Nat, v47 = .int .i64 (i : Int) ∧ i ≤ 31 ∧ g = 31 - i ∧ Hid (HoldAt T sb b d (puts l1 (39 * K) V (1 + i)) f1 a wl) ∧ Hid (Upd [b, d] w wl) ∧ Hid (wl.heap[q]? = some (.cells (nums .u32 regs) 27 (0, 0))) ∧ Hid (wl.heap[q + 1]? = some (.cells (nums .u32 csrs) 28 (0, 0))))
  case atStart => exact ⟨0, rfl, by omega, rfl, H, U, B1, B2⟩
  case round =>
    clear H U B1 B2
    obtain ⟨i, rfl, hi, hg, H, U, B1, B2⟩ := hrel
    have c0 : wr.cell? ⟨sb, 0, none⟩ = some (.pointer (some ⟨b, 0, none⟩)) := by rw [cells_of H.out.cell]; rfl
    rcases Nat.lt_or_ge i 31 with h31 | h31
    · have cr : wr.cell? ⟨q, 1 + i, none⟩ = some (.int .u32 ((nth regs (1 + i) : Nat) : Int)) := by rw [cells_of B1.out]; exact nums_nth .u32 regs (1 + i) (by rw [HR.out]; omega)
      have hv := HVr.out i h31
      have hvl := hVs.out (1 + i)
      rw [hv] at hvl
      replace hv := Lib.hid hv
      generalize nth regs (1 + i) = v at cr hv hvl
      go_wp2_with (fail)
      refine (save_put H.out hv.out (by omega) hvl).mono ?_
      rintro e w3 ⟨rfl, h', u⟩
      replace H := Lib.hid h'
      replace U := Lib.hid (U.out.trans (u.mono (by simp)))
      replace B1 := Lib.hid (u.keep B1.out (by simp; omega))
      replace B2 := Lib.hid (u.keep B2.out (by simp; omega))
      clear h' u c0
      clear hv cr
      go_wp2_with (fail)
      go_roundg (31 - (i + 1))
      case measure => omega
      case rel => exact ⟨i + 1, by go_num, by omega, rfl, H, U, B1, B2⟩
    · obtain rfl : i = 31 := by omega
      go_wp2_with (first
        | go_skip
        | (refine L_load 28 (.tmp 8) rfl (by kernel_rfl) _ _ rfl (nums .u32 csrs) (row_range B2.out) Tryd.underlying28 rfl 5 info_r5 (by rw [nums_size]; exact HC.out) ?_))
      go_loopg [64] 5 (fun g v64 wl => ∃ i : Nat, v64 = .int .i64 (i : Int) ∧ i ≤ 5 ∧ g = 5 - i ∧ Hid (HoldAt T sb b d (puts l1 (39 * K) V (32 + i)) f1 a wl) ∧ Hid (Upd [b, d] w wl))
      case atStart => exact ⟨0, rfl, by omega, rfl, H, U⟩
      case round =>
        clear H U B1 B2
        obtain ⟨i, rfl, hi, hg, H, U⟩ := hrel
        have c0 : wr.cell? ⟨sb, 0, none⟩ = some (.pointer (some ⟨b, 0, none⟩)) := by rw [cells_of H.out.cell]; rfl
        rcases Nat.lt_or_ge i 5 with h5 | h5
        · have ix := IX.out i h5
          have hv := HVc.out i h5
          have hvl := hVs.out (32 + i)
          rw [hv] at hvl
          replace hv := Lib.hid hv
          generalize nth csrs i = v at ix hv hvl
          go_wp2_with (fail)
          refine (save_put H.out hv.out (by omega) hvl).mono ?_
          rintro e w3 ⟨rfl, h', u⟩
          replace H := Lib.hid h'
          replace U := Lib.hid (U.out.trans (u.mono (by simp)))
          clear hv ix h' u c0
          go_wp2_with (fail)
          go_roundg (5 - (i + 1))
          case measure => omega
          case rel => exact ⟨i + 1, by go_num, by omega, rfl, H, U⟩
        · obtain rfl : i = 5 := by omega
          go_wp2_with (fail)
          refine (save_put H.out HVN.out.1 (by omega) (by omega)).mono ?_
          rintro e w3 ⟨rfl, h', u⟩
          replace H := Lib.hid h'
          replace U := Lib.hid (U.out.trans (u.mono (by simp)))
          clear h' u c0
          have c0 := (cells_of H.out.cell) 0
          simp only [List.getElem?_toArray, List.getElem?_cons_zero] at c0
          go_wp2_with (fail)
          refine (save_put H.out HVN.out.2 (by omega) hMK).mono ?_
          rintro e w4 ⟨rfl, h', u⟩
          replace H := Lib.hid h'
          replace U := Lib.hid (U.out.trans (u.mono (by simp)))
          clear h' u c0
          have c0 := (cells_of H.out.cell) 0
          simp only [List.getElem?_toArray, List.getElem?_cons_zero] at c0
          go_wp2_with (fail)
          refine (Put_calls _ b d _ f1 78 K _ H.out.row (by omega)).mono ?_
          rintro e w5 ⟨rfl, r, u⟩
          go_wp2_with (fail)
          go_end0
          exact ⟨rfl, by rw [HRR.out]; exact H.out.step r u (by simp), U.out.trans (u.mono (by simp))⟩
end Go.Proofs.YthoaofbhppdfoaaDoor
