/- Law 12: ComparePrefixes, the walk. -/
import Derived.Test.YtkjolbcmnleamaaL12b
import Derived.Test.YtkjolbcmnleamaaApp
import Derived.Test.YtkjolbcmnleamaaPlan
namespace Go.Proofs.Ytkjolbcmnleamaa
open Go.RowKit Go.Dio

theorem info_u32 : (Try.prog.info? 22).map (fun i => (i.zero, i.size, i.bytes)) = some (some (.int .u32 0), 1, 4) := by kernel_rfl

/-- A place in 0 .. L - 1 out of any number, as Go reckons it. -/
theorem place_ok (n L : Int) (hL : 0 < L) (hL2 : L ≤ 4611686018427387904) : 0 ≤ (n.tmod L + L).tmod L ∧ (n.tmod L + L).tmod L < L ∧ IntKind.i64.wrap (n.tmod L + L) = n.tmod L + L ∧ 0 ≤ n.tmod L + L := by
  have h1 : n.tmod L < L := Int.tmod_lt_of_pos n hL
  have h2 : -L < n.tmod L := by
    rcases (by omega : n < 0 ∨ 0 ≤ n) with hn | hn
    · have h4 := Int.tmod_lt_of_pos (-n) hL
      rw [Int.neg_tmod] at h4
      omega
    · have := Int.tmod_nonneg L hn
      omega
  have h3 : 0 ≤ n.tmod L + L := by omega
  refine ⟨Int.tmod_nonneg _ h3, Int.tmod_lt_of_pos _ hL, ?_, h3⟩
  exact IntWalk.i64_in _ (by omega)

set_option maxHeartbeats 2000000 in
theorem prefixes_walk (A B : Option Addr) (l m : List Nat) (c d : Nat) (n1 n2 : Int) (w : World) (ha : NumsAt w .u32 A l) (hb : NumsAt w .u32 B m) (hl : l.length ≤ 1048576) (hm : m.length ≤ 1048576) (hlc : l.length ≤ c) :
    Calls Try.prog 5 #[.slice A l.length c, .slice B m.length d, .int .i64 n1, .int .i64 n2] w fun e w' => e = .returned (.bool true) ∧ Below w.heap.size w w' := by
  have HA := Lib.hid ha
  have HB := Lib.hid hb
  clear ha hb
  go_enter Try.func5, Try.ntmps5
  go_upto_region 1 with (fail)
  go_wp2_with ((at_builtin; refine L_append _ (.tmp 12) (.tmp 13) _ rfl (by kernel_rfl) w.heap.size 22 _ 1 4 Try.underlying28 info_u32 rfl (by omega) _ 0 [] rfl (World.ownsRow_lit w #[] 0 (Nat.le_refl _) (by simp [maxLen]) rfl) A l.length c (vals .u32 l) rfl (by simp [vals]) (srcAt_nums (HA.out.of_upd ((Upd.refl _ _).alloc _))) (vals_one _ _) (by simp only [maxLen]; omega) (by omega) (by simp) ?_))
  intro v1 w1 own1 g1 at1
  have U1 : Upd [] w w1 := ((Upd.refl [] w).alloc _).grown g1 (by intro k hk hlt; simp [Value.ownBlock] at hk; omega)
  have hb1 : ∀ k, v1.ownBlock = some k → w.heap.size ≤ k := fun k hk => (own1.lt k hk).1
  have G1 := Lib.hid g1
  have A1 := Lib.hid at1
  clear g1 at1
  go_wp2_with ((at_builtin; refine L_append _ (.tmp 14) (.tmp 15) _ rfl (by kernel_rfl) w.heap.size 22 _ 1 4 Try.underlying28 info_u32 rfl (by omega) v1 l.length (vals .u32 l) rfl own1 B m.length d (vals .u32 m) rfl (by simp [vals]) (srcAt_nums (HB.out.of_upd U1)) (vals_one _ _) (by simp only [maxLen]; omega) (by omega) U1.size ?_))
  intro v2 w2 own2 g2 at2
  have U2 : Upd [] w w2 := U1.grown g2 (by intro k hk hlt; have := hb1 k hk; omega)
  have own3 : w2.ownsRow w.heap.size 22 1 v2 (l.length + m.length) (vals .u32 (l ++ m)) := by rw [vals_append]; exact own2
  obtain ⟨C, cap, rfl, hn, hc1, hc2, hC, hC2⟩ := nums_of_own own3
  clear own1 own2 own3 g2 at2 hb1 hn hC2
  obtain ⟨L, hL⟩ : ∃ L, L = (l ++ m).length := ⟨_, rfl⟩
  rw [← hL] at hc1 ⊢
  have hLl : L ≤ 2097152 := by rw [hL, List.length_append]; omega
  have HL := Lib.hid hL
  have HC := Lib.hid hC
  clear hL hC
  have hP1 := Lib.hid (place_ok n1 L)
  have hP2 := Lib.hid (place_ok n2 L)
  go_upto_if 19 with (fail)
  go_cut [10, 11] (fun v10 v11 wc => ∃ x y : Nat, v10 = .int .i64 x ∧ v11 = .int .i64 y ∧ x ≤ L ∧ y ≤ L ∧ Hid (Upd [] w2 wc))
  case first =>
    by_cases h0 : 0 < L
    · obtain ⟨p1, p2, p3, p4⟩ := hP1.out (by omega) (by omega)
      obtain ⟨q1, q2, q3, q4⟩ := hP2.out (by omega) (by omega)
      have hz : ((L : Int) == 0) = false := by simp; omega
      go_wp2
      go_quiet (fail)
      go_wp2
      go_meet
      case rel =>
        have hL0 : (L : Int) ≠ 0 := by omega
        have r1 := Int.emod_nonneg (n1.tmod L + L) hL0
        have r2 := Int.emod_nonneg (n2.tmod L + L) hL0
        have r3 := Int.emod_lt_of_pos (n1.tmod L + L) (b := (L : Int)) (by omega)
        have r4 := Int.emod_lt_of_pos (n2.tmod L + L) (b := (L : Int)) (by omega)
        exact ⟨((n1.tmod L + L) % L).toNat, ((n2.tmod L + L) % L).toNat, by rw [Int.toNat_of_nonneg r1], by rw [Int.toNat_of_nonneg r2], by omega, by omega, upd_drewN _ _ _⟩
    · go_wp2
      go_meet
      case rel => exact ⟨0, 0, rfl, rfl, by omega, by omega, Upd.refl _ _⟩
  case rest =>
    obtain ⟨x, y, rfl, rfl, hx, hy, HU⟩ := hcut
    obtain ⟨k1, hk1⟩ : ∃ k1, k1 = min x y := ⟨_, rfl⟩
    obtain ⟨k2, hk2⟩ : ∃ k2, k2 = max x y := ⟨_, rfl⟩
    have hmin := min2_nat .i64 (x : Int) (y : Int) (k1 : Int) (by omega)
    have hmax := max2_nat .i64 (x : Int) (y : Int) (k2 : Int) (by omega)
    have k1L : k1 ≤ L := by omega
    have k2L : k2 ≤ L := by omega
    have k12 := Lib.hid (show k1 ≤ k2 by omega)
    have e1 := Lib.hid (show ((l ++ m).take k1).length = k1 by rw [List.length_take, ← HL.out]; omega)
    have e2 := Lib.hid (show ((l ++ m).take k2).length = k2 by rw [List.length_take, ← HL.out]; omega)
    clear hk1 hk2
    have d1 : pre l (l ++ m) = true := pre_iff.2 (List.prefix_append l m)
    have d2 : pre ((l ++ m).take k1) ((l ++ m).take k2) = true := pre_iff.2 (List.take_prefix_take_left (h := k12.out))
    have d3 : pre (l ++ m) (l ++ m) = true := pre_iff.2 (List.prefix_refl _)
    have U : ∀ z : Near [] wc, Upd [] w z.1 := fun z => (U2.trans HU.out).trans z.2
    have NA : ∀ z : Near [] wc, NumsAt z.1 .u32 A l := fun z => HA.out.of_upd (U z)
    have NC : ∀ z : Near [] wc, NumsAt z.1 .u32 C (l ++ m) := fun z => HC.out.of_upd (HU.out.trans z.2)
    have q1 : ∀ z : Near [] wc, Calls Try.prog 15 #[.slice A l.length c, .slice C L cap] z.1 fun e w' => e = .returned (.bool true) ∧ ∃ y : Near [] wc, w' = y.1 := fun z => by
      have h := Prefix_calls A C l (l ++ m) c cap z.1 (NA z) (NC z) (by omega) (by rw [← HL.out]; omega)
      rw [← HL.out, d1] at h
      exact Calls.near h
    have q2 : ∀ z : Near [] wc, Calls Try.prog 15 #[.slice C k1 cap, .slice C k2 cap] z.1 fun e w' => e = .returned (.bool true) ∧ ∃ y : Near [] wc, w' = y.1 := fun z => by
      have h := Prefix_calls C C _ _ cap cap z.1 ((NC z).take k1) ((NC z).take k2) (by rw [e1.out]; omega) (by rw [e2.out]; omega)
      rw [e1.out, e2.out, d2] at h
      exact Calls.near h
    have q3 : ∀ z : Near [] wc, Calls Try.prog 15 #[.slice C L cap, .slice C L cap] z.1 fun e w' => e = .returned (.bool true) ∧ ∃ y : Near [] wc, w' = y.1 := fun z => by
      have h := Prefix_calls C C _ _ cap cap z.1 (NC z) (NC z) (by rw [← HL.out]; omega) (by rw [← HL.out]; omega)
      rw [← HL.out, d3] at h
      exact Calls.near h
    have Q1 := Lib.hid q1
    have Q2 := Lib.hid q2
    have Q3 := Lib.hid q3
    have q4 : 0 < m.length → ∀ z : Near [] wc, Calls Try.prog 15 #[.slice C L cap, .slice A l.length c] z.1 fun e w' => e = .returned (.bool false) ∧ ∃ y : Near [] wc, w' = y.1 := fun hm0 z => by
      have h := Prefix_calls C A (l ++ m) l cap c z.1 (NC z) (NA z) (by rw [← HL.out]; omega) (by omega)
      have d4 : pre (l ++ m) l = false := by
        rw [Bool.eq_false_iff]; intro hh
        have := (pre_iff.1 hh).length_le
        rw [List.length_append] at this
        omega
      rw [← HL.out, d4] at h
      exact Calls.near h
    have Q4 := Lib.hid q4
    rcases Nat.eq_zero_or_pos m.length with h0 | h0
    · have hm0 : ((m.length : Int) == 0) = true := by rw [beq_iff_eq]; omega
      clear q1 q2 q3 q4 d1 d2 d3 U NA NC h0
      go_wp2
      refine wp_region_near [] (by kernel_rfl) (by kernel_rfl) ?_
      repeat (go_big_quiet_step (first | with_reducible exact Q1.out _ | with_reducible exact Q2.out _ | with_reducible exact Q3.out _ | exact Calls.near (known_calls _)))
      refine wpQuiet_nil ?_
      intro z
      go_wp2
      go_ret
      exact ⟨rfl, (Upd.trans U2 (HU.out.trans z.2)).below⟩
    · have hm0 : ((m.length : Int) == 0) = false := by rw [beq_eq_false_iff_ne]; omega
      have Q5 := Lib.hid (Q4.out h0)
      clear q1 q2 q3 q4 d1 d2 d3 U NA NC h0 Q4
      go_wp2
      refine wp_region_near [] (by kernel_rfl) (by kernel_rfl) ?_
      repeat (go_big_quiet_step (first | with_reducible exact Q1.out _ | with_reducible exact Q2.out _ | with_reducible exact Q3.out _ | with_reducible exact Q5.out _ | exact Calls.near (known_calls _)))
      refine wpQuiet_nil ?_
      intro z
      go_wp2
      go_ret
      exact ⟨rfl, (Upd.trans U2 (HU.out.trans z.2)).below⟩
end Go.Proofs.Ytkjolbcmnleamaa
