/- Law 13: MemoryPlays. -/
import Derived.Test.YtfnemolaoijbhacDoorL13p
import Derived.Test.YtfnemolaoijbhacDoorL13k
import Derived.Test.YtfnemolaoijbhacDoorBook
import Derived.Test.YtfnemolaoijbhacDoorSeg
namespace Go.Proofs.YtfnemolaoijbhacDoor
open Go.RowKit Go.Dio
set_option linter.unusedSimpArgs false
set_option linter.unusedVariables false

open Go.ChangeShapes Go.WideShapes Go.ChangeAt in
theorem asks13_open {H : Type} {enc : TypeId × Value → H} {W : World} {a : Option Addr} {len cap : Nat} {d : DataW H} {ps : List MemPlace}
    (h : DataW.Trod enc Tryd.prog W 0 (fun _ => true) true 56 (.slice a len cap) d ps) :
    ∃ l : List Ask4V, Asks4At W a l ∧ l.length = len ∧ Asks4Ok l ∧ len ≤ cap ∧ len + 1 ≤ Rows.uptoBulk d := by
  obtain ⟨l, h1, h2, h3, h4, _, h6⟩ := asks4_in Tryd.underlying56 Tryd.underlying58 rfl rfl rfl rfl (by kernel_rfl) (by kernel_rfl) (by kernel_rfl) (by kernel_rfl) (by kernel_rfl) Tryd.underlying3 Tryd.underlying3 Tryd.underlying26 Tryd.underlying26 h
  exact ⟨l, h1, h2, h3, h4, h6⟩
theorem info_ask13 : (Tryd.prog.info? 58).map (fun i => (i.zero, i.size, i.bytes)) = some (some (.agg #[.int .i64 0, .int .i64 0, .int .u32 0, .int .u32 0]), 4, 24) := by kernel_rfl
theorem and31 (n : Nat) (h : n < 2 ^ 32) : bits .and .u32 (n : Int) 31 = ((n % 32 : Nat) : Int) := by
  have e : (31 : Int) = ((2 ^ 5 - 1 : Nat) : Int) := by decide
  rw [e, and32 n _ h (by decide), Nat.and_two_pow_sub_one_eq_mod]
theorem and1u (n : Nat) (h : n < 2 ^ 32) : bits .and .u32 (n : Int) 1 = ((n % 2 : Nat) : Int) := by
  have e : (1 : Int) = ((2 ^ 1 - 1 : Nat) : Int) := by decide
  rw [e, and32 n _ h (by decide), Nat.and_two_pow_sub_one_eq_mod]
theorem andn3 (n : Nat) (h : n < 2 ^ 32) : ∃ y : Nat, y < 2 ^ 32 ∧ bits .andNot .u32 (n : Int) 3 = (y : Int) :=
  ⟨n &&& (4294967295 ^^^ 3), Nat.lt_of_le_of_lt Nat.and_le_left h, andnot32 n 3 h (by decide)⟩

/-- The worlds that have one cell as w has it. -/
def CelW (a : Addr) (w : World) : Type := { z : World // z.cell? a = w.cell? a }
instance (a : Addr) (w : World) : Nonempty (CelW a w) := ⟨⟨w, rfl⟩⟩

set_option maxRecDepth 20000 in
set_option maxHeartbeats 4000000 in
theorem plays13_walk (A : Option Addr) (ns : List Nat) (c : Nat) (B : Option Addr) (asks : List Ask4V) (c2 : Nat) (w : World) (hA : NumsAt w .u32 A ns) (hs : ∀ x ∈ ns, x < 2 ^ 32) (hln : ns.length ≤ 9223372036854775807) (hcn : ns.length ≤ c) (hB : Asks4At w B asks) (hk : Asks4Ok asks) (hlc : asks.length ≤ 1048576) (hT : Tz w) :
    Calls Tryd.prog 8 #[.slice A ns.length c, .slice B asks.length c2] w fun e w' => e = .returned (.bool true) ∧ Below w.heap.size w w' := by
  have PA : ∀ w1, Upd [] w w1 → (ns.length ≤ 1100 → Calls Tryd.prog 24 #[.slice A ns.length c, .slice B asks.length c2] w1 fun e w' => e = .returned (.bool true) ∧ Below w1.heap.size w1 w') ∧ (1100 < ns.length → Calls Tryd.prog 24 #[.slice A 1100 c, .slice B asks.length c2] w1 fun e w' => e = .returned (.bool true) ∧ Below w1.heap.size w1 w') := fun w1 u => by
    refine ⟨fun _ => play13_calls A ns c B asks c2 w1 (hA.of_upd u) hs hln ?_ hk (by omega) (hT.of_upd u (by simp)), fun h => ?_⟩
    · exact hB.of_upd u
    · have tk : (ns.take 1100).length = 1100 := by rw [List.length_take]; omega
      have := play13_calls A (ns.take 1100) c B asks c2 w1 ((hA.take 1100).of_upd u) (fun x hx => hs x (List.mem_of_mem_take hx)) (by omega) (hB.of_upd u) hk (by omega) (hT.of_upd u (by simp))
      rwa [tk] at this
  have PN : ∀ w1 (D : Option Addr), Upd [] w w1 → NumsAt w1 .u32 D [7, 8, 9] → Calls Tryd.prog 24 #[.slice D 3 3, .slice B asks.length c2] w1 fun e w' => e = .returned (.bool true) ∧ Below w1.heap.size w1 w' := fun w1 D u h =>
    play13_calls D [7, 8, 9] 3 B asks c2 w1 h (by decide) (by decide) (hB.of_upd u) hk (by omega) (hT.of_upd u (by simp))
  have PA := Lib.hid PA
  have PN := Lib.hid PN
  have HA := Lib.hid hB
  have HS := Lib.hid hk
  have HT := Lib.hid hT
  clear hA hs hB hk hT
  obtain ⟨m, hm⟩ : ∃ m, m = asks.length := ⟨_, rfl⟩
  rw [← hm] at hlc PA PN ⊢
  have HM := Lib.hid hm
  clear hm
  generalize ns.length = N at *
  go_enter Tryd.func8, Tryd.ntmps8
  go_wp2_with (fail)
  go_loopg [5, 10] m (fun g v5 v10 wl => ∃ (k : Nat) (l : List Ask4V), v10 = .int .i64 (k : Int) ∧ k ≤ m ∧ g = m - k ∧ Hid (Asks4Ok l) ∧ Hid (wl.ownsRow w.heap.size 58 4 v5 k (ask4Vals l)) ∧ Hid (Upd [] w wl))
  case atStart => exact ⟨0, [], rfl, by omega, rfl, Lib.hid Asks4Ok.nil_, ⟨rfl, Or.inl ⟨rfl, rfl⟩⟩, Upd.refl _ _⟩
  case round =>
    obtain ⟨k, l, rfl, hk, hg, HN, HO, U⟩ := hrel
    rcases Nat.lt_or_ge k m with hkm | hkm
    · obtain ⟨ba, oa, rfl, hba, hca⟩ := HA.out (by rw [← HM.out]; omega)
      have hq := hca k (by rw [← HM.out]; omega)
      have k0 := hq 0 (.int .i64 (ask4N asks k).kind) rfl
      have k1 := hq 1 (.int .i64 (ask4N asks k).n) rfl
      have k2 := hq 2 (.int .u32 ((ask4N asks k).u : Int)) rfl
      have k3 := hq 3 (.int .u32 ((ask4N asks k).v : Int)) rfl
      have hn := HS.out k
      clear hq hca
      generalize ask4N asks k = a at k0 k1 k2 k3 hn
      obtain ⟨kd, an, au, av⟩ := a
      obtain ⟨hau, hav, hia, hik⟩ := hn
      simp only at k0 k1 k2 k3 hau hav hia hik
      have eqc : ∀ o, wr.cell? ⟨ba, o, none⟩ = w.cell? ⟨ba, o, none⟩ := fun o => World.cell?_of_block (w := w) (U.out.block ba hba (by simp))
      rw [← eqc] at k0 k1 k2 k3
      rw [Nat.add_zero] at k0
      have W1 := Lib.hid fun w' => Within_calls kd 0 6 w' (by omega) (by omega) (by omega) hik
      have W2 := Lib.hid fun w' => Within_calls an (-1) 300 w' (by omega) (by omega) (by omega) hia
      obtain ⟨b1, b2⟩ := within_range (n := kd) (show (0 : Int) ≤ 6 by omega)
      obtain ⟨b3, b4⟩ := within_range (n := an) (show (-1 : Int) ≤ 300 by omega)
      generalize within kd 0 6 = r1 at W1 b1 b2
      generalize within an (-1) 300 = r2 at W2 b3 b4
      have hand := and31 au hau
      have hx5 : au % 32 < 2 ^ 32 := by omega
      generalize au % 32 = x5 at hand hx5
      clear eqc hia hik hau
      go_upto_region 6 with (fail)
      have hoq : ∀ g, u5.ownBlock = some g → g ≠ wr.heap.size := fun g hg => by have := (HO.out.lt g hg).2; omega
      have HOW := Lib.hid (own_upd HO.out ((Upd.refl [] wr).alloc (.cells #[.int .i64 kd, .int .i64 an, .int .u32 (au : Int), .int .u32 (av : Int)] 58)) (by simp))
      have UW := Lib.hid (U.out.alloc (.cells #[.int .i64 kd, .int .i64 an, .int .u32 (au : Int), .int .u32 (av : Int)] 58))
      have hqq := Go.heap_alloc_last wr (.cells #[.int .i64 kd, .int .i64 an, .int .u32 (au : Int), .int .u32 (av : Int)] 58)
      have hqw : w.heap.size ≤ wr.heap.size := U.out.size
      generalize wr.alloc (.cells #[.int .i64 kd, .int .i64 an, .int .u32 (au : Int), .int .u32 (av : Int)] 58) = W at HOW UW hqq ⊢
      generalize wr.heap.size = q at hqq hoq hqw ⊢
      clear HO U k0 k1 k2 k3
      have c0 : W.cell? ⟨q, 0, none⟩ = some (.int .i64 kd) := by rw [cells_of hqq]; rfl
      have c2 : W.cell? ⟨q, 2, none⟩ = some (.int .u32 (au : Int)) := by rw [cells_of hqq]; rfl
      have f0 : W.frozen? ⟨q, 0, none⟩ = false := free_of hqq 0
      have n2 : ∀ x : CelW ⟨q, 2, none⟩ W, x.1.cell? ⟨q, 2, none⟩ = some (.int .u32 (au : Int)) := fun x => x.2.trans c2
      have C2 := Lib.hid c2
      clear c2
      go_wp2_with (fail)
      refine wp_region_segs [([([0, 3, 4, 5], 1), ([], 2), ([6], 7)], [8]), ([([], 9)], [])] (by kernel_rfl) (by kernel_rfl) (by kernel_rfl) (by kernel_rfl) (fun _ d _ _ _ h => by cases d <;> exact h) ?_
      refine segs_part (fun z => ∃ x : CelW ⟨q, 2, none⟩ W, z = x.1) ⟨⟨_, by simp⟩, rfl⟩ ?_
      refine part_next ?_
      simp only [opsAt, List.map_cons, List.map_nil, List.getElem?_toArray, List.getElem?_cons_zero, List.getElem?_cons_succ, Option.getD_some]
      repeat (go_big_quiet_step (fail))
      refine wpQuiet_nil ?_
      refine part_one rfl ?_
      go_wp2_with fail
      refine part_same ⟨⟨_, by simp⟩, rfl⟩ ?_
      refine part_next ?_
      simp only [opsAt, List.map_cons, List.map_nil, List.getElem?_toArray, List.getElem?_cons_zero, List.getElem?_cons_succ, Option.getD_some]
      repeat (go_big_quiet_step (fail))
      refine wpQuiet_nil ?_
      refine part_one rfl ?_
      go_wp2_with fail
      refine (W1.out _).mono ?_
      rintro e w' ⟨rfl, hw'⟩
      obtain rfl := hw'
      go_wp2_with fail
      refine part_same ⟨⟨_, by simp⟩, rfl⟩ ?_
      refine part_next ?_
      simp only [opsAt, List.map_cons, List.map_nil, List.getElem?_toArray, List.getElem?_cons_zero, List.getElem?_cons_succ, Option.getD_some]
      repeat (go_big_quiet_step (fail))
      refine wpQuiet_nil ?_
      refine part_one rfl ?_
      go_wp2_with fail
      have U1 : Upd [q] W (W.setCell ⟨q, 0, none⟩ (.int .i64 r1)).drew := ((Upd.refl [q] W).setCell (p := ⟨q, 0, none⟩) (by simp) _).drew
      have hq1 : (W.setCell ⟨q, 0, none⟩ (.int .i64 r1)).drew.heap[q]? = some (.cells #[.int .i64 r1, .int .i64 an, .int .u32 (au : Int), .int .u32 (av : Int)] 58 (0, 0)) := by
        show (W.setCell ⟨q, 0, none⟩ (.int .i64 r1)).heap[q]? = _
        rw [heap_setCell_eq hqq]; simp
      generalize (W.setCell ⟨q, 0, none⟩ (.int .i64 r1)).drew = V1 at U1 hq1 ⊢
      refine part_same ⟨⟨_, by rw [cells_of hq1, C2.out]; rfl⟩, rfl⟩ ?_
      refine part_last ?_
      simp only [opsAt, List.map_cons, List.map_nil, List.getElem?_toArray, List.getElem?_cons_zero, List.getElem?_cons_succ, Option.getD_some]
      repeat (go_big_quiet_step (fail))
      refine wpQuiet_nil ?_
      unfold partEnd
      clear c0 f0 W1 n2 C2
      have f2 : V1.frozen? ⟨q, 2, none⟩ = false := free_of hq1 2
      have g2 : V1.cell? ⟨q, 2, none⟩ = some (.int .u32 (au : Int)) := by rw [cells_of hq1]; rfl
      refine segs_part (fun z => ∃ x : Near [q] V1, z = x.1) ⟨⟨_, (Upd.refl _ _)⟩, rfl⟩ ?_
      refine part_next ?_
      simp only [opsAt, List.map_cons, List.map_nil, List.getElem?_toArray, List.getElem?_cons_zero, List.getElem?_cons_succ, Option.getD_some]
      repeat (go_big_quiet_step (fail))
      refine wpQuiet_nil ?_
      refine part_one rfl ?_
      go_wp2_with fail
      have U2 : Upd [q] W (V1.setCell ⟨q, 2, none⟩ (.int .u32 (x5 : Int))) := U1.setCell (p := ⟨q, 2, none⟩) (by simp) _
      have U2' : Upd [q] V1 (V1.setCell ⟨q, 2, none⟩ (.int .u32 (x5 : Int))) := (Upd.refl _ _).setCell (p := ⟨q, 2, none⟩) (by simp) _
      have hq2 : (V1.setCell ⟨q, 2, none⟩ (.int .u32 (x5 : Int))).heap[q]? = some (.cells #[.int .i64 r1, .int .i64 an, .int .u32 (x5 : Int), .int .u32 (av : Int)] 58 (0, 0)) := by
        rw [heap_setCell_eq hq1]; simp
      generalize V1.setCell ⟨q, 2, none⟩ (.int .u32 (x5 : Int)) = V2 at U2 U2' hq2 ⊢
      refine part_same ⟨⟨_, U2'⟩, rfl⟩ ?_
      clear f2 g2 hq1 U1 U2' hand
      refine part_last ?_
      simp only [opsAt, List.map_cons, List.map_nil, List.getElem?_toArray, List.getElem?_cons_zero, List.getElem?_cons_succ, Option.getD_some]
      repeat (go_big_quiet_step (fail))
      refine wpQuiet_nil ?_
      unfold partEnd
      refine segs_end ?_
      have c2 : V2.cell? ⟨q, 2, none⟩ = some (.int .u32 (x5 : Int)) := by rw [cells_of hq2]; rfl
      have f2 : V2.frozen? ⟨q, 2, none⟩ = false := free_of hq2 2
      have h1 := and1u x5 hx5
      obtain ⟨y', hy', hn3⟩ := andn3 x5 hx5
      rcases (by omega : x5 % 2 = 0 ∨ x5 % 2 = 1) with e | e
      · rw [e] at h1
        go_upto_region 9 with (fail)
        have U3 : Upd [q] W (V2.setCell ⟨q, 2, none⟩ (.int .u32 (y' : Int))) := U2.setCell (p := ⟨q, 2, none⟩) (by simp) _
        have hq3 : (V2.setCell ⟨q, 2, none⟩ (.int .u32 (y' : Int))).heap[q]? = some (.cells #[.int .i64 r1, .int .i64 an, .int .u32 (y' : Int), .int .u32 (av : Int)] 58 (0, 0)) := by
          rw [heap_setCell_eq hq2]; simp
        generalize V2.setCell ⟨q, 2, none⟩ (.int .u32 (y' : Int)) = W3 at U3 hq3 ⊢
        clear c2 f2 h1 hn3 e hq2 U2
        have hy := hy'
        generalize y' = y at hq3 hy
        have e1 : W3.cell? ⟨q, 1, none⟩ = some (.int .i64 an) := by rw [cells_of hq3]; rfl
        have e1f : W3.frozen? ⟨q, 1, none⟩ = false := free_of hq3 1
        go_wp2_with (fail)
        refine (W2.out _).mono ?_
        rintro e w2 ⟨rfl, hw2⟩
        obtain rfl := hw2
        go_upto_region 10 with (fail)
        have U4 : Upd [q] W (w2.setCell ⟨q, 1, none⟩ (.int .i64 r2)) := U3.setCell (p := ⟨q, 1, none⟩) (by simp) _
        have hq4 : (w2.setCell ⟨q, 1, none⟩ (.int .i64 r2)).heap[q]? = some (.cells #[.int .i64 r1, .int .i64 r2, .int .u32 (y : Int), .int .u32 (av : Int)] 58 (0, 0)) := by
          rw [heap_setCell_eq hq3]; simp
        generalize w2.setCell ⟨q, 1, none⟩ (.int .i64 r2) = W4 at U4 hq4 ⊢
        clear e1 e1f W2 U3 hq3
        have HO3 := Lib.hid (own_upd (own_upd HOW.out U4 (fun g hg => by simpa using hoq g hg)) ((Upd.refl [] W4).alloc (.cells #[.int .i64 r1, .int .i64 r2, .int .u32 (y : Int), .int .u32 (av : Int)] 58)) (by simp))
        have UU := Lib.hid ((UW.out.then U4 (fun x hx hlt => by simp at hx; omega)).alloc (.cells #[.int .i64 r1, .int .i64 r2, .int .u32 (y : Int), .int .u32 (av : Int)] 58))
        have t0 : W4.cell? ⟨q, 0, none⟩ = some (.int .i64 r1) := by rw [cells_of hq4]; rfl
        have t1 : W4.cell? ⟨q, 1, none⟩ = some (.int .i64 r2) := by rw [cells_of hq4]; rfl
        have t2 : W4.cell? ⟨q, 2, none⟩ = some (.int .u32 (y : Int)) := by rw [cells_of hq4]; rfl
        have t3 : W4.cell? ⟨q, 3, none⟩ = some (.int .u32 (av : Int)) := by rw [cells_of hq4]; rfl
        have hlow : ∀ g, u5.ownBlock = some g → w.heap.size ≤ g := fun g hg => (HO3.out.lt g hg).1
        clear hq4 U4
        go_wp2_with ((at_builtin; refine L_append _ (.tmp 37) (.tmp 39) 56 rfl (by kernel_rfl) w.heap.size 58 _ 4 24 Tryd.underlying56 info_ask13 rfl (by omega) u5 k (ask4Vals l) rfl HO3.out (some ⟨W4.heap.size, 0, none⟩) 1 1 (Ask4V.cells ⟨r1, r2, y, av⟩) rfl rfl (srcAt_new W4 (Ask4V.cells ⟨r1, r2, y, av⟩) _) (by simp [Ask4V.cells, Value.oneCell']) (by simp only [maxLen]; omega) (by omega) UU.out.size ?_))
        intro v' w' own gr at1
        have HW := Lib.hid own
        have UG := Lib.hid (UU.out.grown gr (fun g hg hlt => by have := hlow g hg; omega))
        clear own gr at1 t0 t1 t2 t3 HO3 UU
        go_wp2_with (fail)
        go_roundg (m - (k + 1))
        case measure => omega
        case rel => exact ⟨k + 1, l ++ [⟨r1, r2, y, av⟩], by go_num, by omega, rfl, Lib.hid (HN.out.snoc ⟨hy, hav, by simp only; omega, by simp only; omega⟩), Lib.hid (by rw [ask4Vals_snoc]; exact HW.out), UG⟩
      · rw [e] at h1
        go_upto_region 9 with (fail)
        have U3 := U2
        have hq3 := hq2
        clear c2 f2 h1 hn3 e hq2 U2
        generalize V2 = W3 at U3 hq3 ⊢
        have hy := hx5
        generalize x5 = y at hq3 hy
        have e1 : W3.cell? ⟨q, 1, none⟩ = some (.int .i64 an) := by rw [cells_of hq3]; rfl
        have e1f : W3.frozen? ⟨q, 1, none⟩ = false := free_of hq3 1
        go_wp2_with (fail)
        refine (W2.out _).mono ?_
        rintro e w2 ⟨rfl, hw2⟩
        obtain rfl := hw2
        go_upto_region 10 with (fail)
        have U4 : Upd [q] W (w2.setCell ⟨q, 1, none⟩ (.int .i64 r2)) := U3.setCell (p := ⟨q, 1, none⟩) (by simp) _
        have hq4 : (w2.setCell ⟨q, 1, none⟩ (.int .i64 r2)).heap[q]? = some (.cells #[.int .i64 r1, .int .i64 r2, .int .u32 (y : Int), .int .u32 (av : Int)] 58 (0, 0)) := by
          rw [heap_setCell_eq hq3]; simp
        generalize w2.setCell ⟨q, 1, none⟩ (.int .i64 r2) = W4 at U4 hq4 ⊢
        clear e1 e1f W2 U3 hq3
        have HO3 := Lib.hid (own_upd (own_upd HOW.out U4 (fun g hg => by simpa using hoq g hg)) ((Upd.refl [] W4).alloc (.cells #[.int .i64 r1, .int .i64 r2, .int .u32 (y : Int), .int .u32 (av : Int)] 58)) (by simp))
        have UU := Lib.hid ((UW.out.then U4 (fun x hx hlt => by simp at hx; omega)).alloc (.cells #[.int .i64 r1, .int .i64 r2, .int .u32 (y : Int), .int .u32 (av : Int)] 58))
        have t0 : W4.cell? ⟨q, 0, none⟩ = some (.int .i64 r1) := by rw [cells_of hq4]; rfl
        have t1 : W4.cell? ⟨q, 1, none⟩ = some (.int .i64 r2) := by rw [cells_of hq4]; rfl
        have t2 : W4.cell? ⟨q, 2, none⟩ = some (.int .u32 (y : Int)) := by rw [cells_of hq4]; rfl
        have t3 : W4.cell? ⟨q, 3, none⟩ = some (.int .u32 (av : Int)) := by rw [cells_of hq4]; rfl
        have hlow : ∀ g, u5.ownBlock = some g → w.heap.size ≤ g := fun g hg => (HO3.out.lt g hg).1
        clear hq4 U4
        go_wp2_with ((at_builtin; refine L_append _ (.tmp 37) (.tmp 39) 56 rfl (by kernel_rfl) w.heap.size 58 _ 4 24 Tryd.underlying56 info_ask13 rfl (by omega) u5 k (ask4Vals l) rfl HO3.out (some ⟨W4.heap.size, 0, none⟩) 1 1 (Ask4V.cells ⟨r1, r2, y, av⟩) rfl rfl (srcAt_new W4 (Ask4V.cells ⟨r1, r2, y, av⟩) _) (by simp [Ask4V.cells, Value.oneCell']) (by simp only [maxLen]; omega) (by omega) UU.out.size ?_))
        intro v' w' own gr at1
        have HW := Lib.hid own
        have UG := Lib.hid (UU.out.grown gr (fun g hg hlt => by have := hlow g hg; omega))
        clear own gr at1 t0 t1 t2 t3 HO3 UU
        go_wp2_with (fail)
        go_roundg (m - (k + 1))
        case measure => omega
        case rel => exact ⟨k + 1, l ++ [⟨r1, r2, y, av⟩], by go_num, by omega, rfl, Lib.hid (HN.out.snoc ⟨hy, hav, by simp only; omega, by simp only; omega⟩), Lib.hid (by rw [ask4Vals_snoc]; exact HW.out), UG⟩
    · obtain rfl : k = m := by omega
      obtain ⟨A', cap', rfl, hkl, hA'⟩ := asks4_of_own HO.out
      have P1 := play13_calls none [] 0 A' l cap' wr (numsAt_nil _ _ _) (by simp) (by decide) hA' HN.out (by omega) (HT.out.of_upd U.out (by simp))
      have K3 := Lib.hid fun w' (u : Upd [] wr w') => known13_calls w' (HT.out.of_upd (U.out.trans u) (by simp))
      have P3 := Lib.hid fun w1 D (u : Upd [] wr w1) => PN.out w1 D (U.out.trans u)
      rw [List.length_nil, ← hkl] at P1
      rw [← hkl]
      replace hkl := Lib.hid hkl
      replace P1 := Lib.hid P1
      have V := Lib.hid (Upd.refl [] wr)
      rcases Nat.lt_or_ge 1100 N with h11 | h11
      · have P2 := Lib.hid fun w1 (u : Upd [] wr w1) => (PA.out w1 (U.out.trans u)).2 h11
        clear PA PN
        go_wp2_with (fail)
        refine (P1.out).mono ?_
        rintro e w1 ⟨rfl, hb⟩
        replace V := Lib.hid (V.out.trans (Upd.of_below hb))
        clear hb
        go_wp2_with (fail)
        refine (P2.out _ V.out).mono ?_
        rintro e w1 ⟨rfl, hb⟩
        replace V := Lib.hid (V.out.trans (Upd.of_below hb))
        clear hb
        go_wp2_with (fail)
        have V2 := Lib.hid (V.out.alloc (.cells (nums .u32 [7, 8, 9]) 26))
        refine (P3.out _ _ V2.out (numsAt_new w1 .u32 [7, 8, 9] 26)).mono ?_
        rintro e w2 ⟨rfl, hb⟩
        replace V := Lib.hid (V2.out.trans (Upd.of_below hb))
        clear hb V2
        go_wp2_with (fail)
        refine (K3.out _ V.out).mono ?_
        rintro e w1 ⟨rfl, hb⟩
        replace V := Lib.hid (V.out.trans (Upd.of_below hb))
        clear hb
        go_wp2_with (fail)
        go_ret
        exact ⟨rfl, (U.out.trans V.out).below⟩
      · have P2 := Lib.hid fun w1 (u : Upd [] wr w1) => (PA.out w1 (U.out.trans u)).1 h11
        clear PA PN
        go_wp2_with (fail)
        refine (P1.out).mono ?_
        rintro e w1 ⟨rfl, hb⟩
        replace V := Lib.hid (V.out.trans (Upd.of_below hb))
        clear hb
        go_wp2_with (fail)
        refine (P2.out _ V.out).mono ?_
        rintro e w1 ⟨rfl, hb⟩
        replace V := Lib.hid (V.out.trans (Upd.of_below hb))
        clear hb
        go_wp2_with (fail)
        have V2 := Lib.hid (V.out.alloc (.cells (nums .u32 [7, 8, 9]) 26))
        refine (P3.out _ _ V2.out (numsAt_new w1 .u32 [7, 8, 9] 26)).mono ?_
        rintro e w2 ⟨rfl, hb⟩
        replace V := Lib.hid (V2.out.trans (Upd.of_below hb))
        clear hb V2
        go_wp2_with (fail)
        refine (K3.out _ V.out).mono ?_
        rintro e w1 ⟨rfl, hb⟩
        replace V := Lib.hid (V.out.trans (Upd.of_below hb))
        clear hb
        go_wp2_with (fail)
        go_ret
        exact ⟨rfl, (U.out.trans V.out).below⟩
end Go.Proofs.YtfnemolaoijbhacDoor
