/- The document's memory, in memory: New, Scrub. -/
import Derived.Test.YtfnemolaoijbhacDoorRMem
import Derived.Test.YtfnemolaoijbhacDoorMem3
import Derived.Test.YtfnemolaoijbhacDoorMem4
namespace Go.Proofs.YtfnemolaoijbhacDoor
open Go.RowKit Go.Dio
set_option linter.unusedSimpArgs false
set_option linter.unusedVariables false

theorem RNew_size (n : Int) (N : Nat) (w : World) (hT : Tz w) (hN : (N : Int) = max 0 (min n 2048)) :
    Calls Tryd.prog 48 #[.int .i64 n] w fun e w' => e = .returned (.pointer (some ⟨w.heap.size + 1, 0, none⟩)) ∧ RowAt 85 (w.heap.size + 1) w.heap.size (List.replicate N 0) 0 w' ∧ Upd [] w w' ∧ w'.heap.size = w.heap.size + 2 := by
  obtain ⟨i0, hi, hz0, hz1, hz2⟩ := info_parts info_u64
  have hmk : ∀ u : World, (Instr.makeSlice 83 (.int .i64 (N : Int)) (.int .i64 (N : Int))).run Tryd.prog u =
      .ok (.slice (some ⟨u.heap.size, 0, none⟩) N N) (u.alloc (.cells (nums .u64 (List.replicate N 0)) 92)) := fun u => by
    have h := run_make (P := Tryd.prog) u 83 92 i0 (.int .u64 0) Tryd.underlying83 hi hz0 .i64 .i64 (N : Int) (N : Int) (by omega) (Int.le_refl _) (by rw [hz2]; omega) (by omega)
    rw [Int.toNat_natCast] at h
    rw [← made_nums]
    simpa [hz1, Value.cells] using h
  have hNl : N ≤ 2048 := by omega
  have hmin := min2_nat .i64 n 2048 _ rfl
  have hmax := max2_nat .i64 (min n 2048) 0 (N : Int) (by omega)
  clear hN
  go_enter Tryd.func48, Tryd.ntmps48
  go_wp2_with (fail)
  go_ret
  have h0 := hT.size
  have hNs : (List.replicate N 0).length = N := List.length_replicate ..
  refine ⟨rfl, ⟨?_, ?_, by omega, by omega, by omega, ?_, ?_, ?_⟩, ((Upd.refl _ _).alloc _).alloc _, by simp⟩
  · rw [hNs]; simpa using Go.heap_alloc_last (w.alloc (.cells (nums .u64 (List.replicate N 0)) 92)) (.cells #[.slice (some ⟨w.heap.size, 0, none⟩) N N, .int .i64 0] 85)
  · exact heap_old (Go.heap_alloc_last _ _) _
  · exact hT.of_upd (((Upd.refl [] _).alloc _).alloc _) (by simp)
  · intro x hx; obtain rfl := List.eq_of_mem_replicate hx; decide
  · rw [hNs]; omega

set_option maxHeartbeats 1000000 in
theorem RMNew_long (A : Option Addr) (n c : Nat) (w : World) (h : 1024 < n) (hn : n ≤ 9223372036854775807) :
    Calls Tryd.prog 42 #[.slice A n c] w fun e w' => e = .returned (.pointer none) ∧ w' = w := by
  have hd : decide ((1024 : Int) < (n : Int)) = true := by rw [decide_eq_true_iff]; omega
  go_enter Tryd.func42, Tryd.ntmps42
  go_wp2_with (fail)
  go_ret
  exact ⟨rfl, rfl⟩

set_option maxRecDepth 20000 in
set_option maxHeartbeats 2000000 in
theorem RMNew_calls (A : Option Addr) (ns : List Nat) (c : Nat) (w : World) (hA : NumsAt w .u32 A ns) (hs : ∀ x ∈ ns, x < 2 ^ 32) (hl : ns.length ≤ 1024) (hT : Tz w) :
    Calls Tryd.prog 42 #[.slice A ns.length c] w fun e w' => e = .returned (.pointer (some ⟨w.heap.size + 2, 0, none⟩)) ∧ RMemAt (w.heap.size + 2) (w.heap.size + 1) w.heap.size (newL ns) 0 0 w' ∧ Upd [] w w' := by
  have hN : Calls Tryd.prog 48 #[.int .i64 1024] w fun e w' => e = .returned (.pointer (some ⟨w.heap.size + 1, 0, none⟩)) ∧ RowAt 85 (w.heap.size + 1) w.heap.size (List.replicate 1024 0) 0 w' ∧ Upd [] w w' ∧ w'.heap.size = w.heap.size + 2 := RNew_size 1024 1024 w hT (by decide)
  obtain ⟨l0, hl0⟩ : ∃ l0, l0 = List.replicate 1024 0 := ⟨_, rfl⟩
  have n0 : Hid (l0.length = 1024 ∧ ∀ j, nth l0 j = 0) := Lib.hid ⟨by rw [hl0]; simp, fun j => by
    rw [hl0]; unfold nth; rw [List.getD, List.getElem?_replicate]; split <;> rfl⟩
  rw [← hl0] at hN
  have N := Lib.hid hN
  have HA := Lib.hid hA
  have HS := Lib.hid fun i => nth_lt hs (by decide) i
  have hz0 := hT.lt
  clear hl0 hN hA hs hT
  obtain ⟨M, hM⟩ : ∃ M, M = ns.length := ⟨_, rfl⟩
  rw [← hM] at hl ⊢
  have HM := Lib.hid hM
  obtain ⟨R, hR⟩ : ∃ R, R = newL ns := ⟨_, rfl⟩
  rw [← hR]
  have HR := Lib.hid hR
  clear hM hR
  go_enter Tryd.func42, Tryd.ntmps42
  go_wp2_with (fail)
  refine N.out.mono ?_
  rintro e w1 ⟨rfl, r, u, hz⟩
  have R1 := Lib.hid r
  have U1 := Lib.hid u
  have HZ := Lib.hid hz
  clear r u hz
  go_wp2_with (fail)
  generalize hmb : w1.heap.size = mb
  have H0 : Hid (RMemAt mb (w.heap.size + 1) w.heap.size l0 0 0 (w1.alloc (.cells #[.pointer (some ⟨w.heap.size + 1, 0, none⟩), .int .i64 0] 82))) := by
    have hz := HZ.out
    refine Lib.hid ⟨?_, R1.out.upd0 ((Upd.refl _ _).alloc _), by omega, by omega, by omega⟩
    rw [← hmb]; exact Go.heap_alloc_last w1 _
  have U2 := Lib.hid (U1.out.alloc (.cells #[.pointer (some ⟨w.heap.size + 1, 0, none⟩), .int .i64 0] 82))
  have HMB := Lib.hid (show mb = w.heap.size + 2 by rw [← hmb]; exact HZ.out)
  clear hmb HZ R1 U1
  generalize w1.alloc (.cells #[.pointer (some ⟨w.heap.size + 1, 0, none⟩), .int .i64 0] 82) = w2 at H0 U2 ⊢
  go_loopg [4] M (fun g v4 wl => ∃ (k : Nat) (l : List Nat), v4 = .int .i64 (k : Int) ∧ k ≤ M ∧ g = M - k ∧ Hid (l.length = 1024 ∧ ∀ j, j < 1024 → nth l j = if j < k then enc (nth ns j) else 0) ∧ Hid (RMemAt mb (w.heap.size + 1) w.heap.size l 0 0 wl) ∧ Hid (Upd [] w wl))
  case atStart => exact ⟨0, l0, rfl, by omega, rfl, Lib.hid ⟨n0.out.1, fun j _ => by rw [n0.out.2 j, if_neg (by omega)]⟩, H0, U2⟩
  case round =>
    clear H0 U2
    obtain ⟨k, l, rfl, hk, hg, HL, H, U⟩ := hrel
    rcases Nat.lt_or_ge k M with hkM | hkM
    · obtain ⟨ba, oa, rfl, hba, hca⟩ := HA.out (by rw [← HM.out]; omega)
      have cn : wr.cell? ⟨ba, oa + k, none⟩ = some (.int .u32 ((nth ns k : Nat) : Int)) := by
        rw [← hca k (by rw [← HM.out]; omega)]; exact World.cell?_of_block (w := w) (U.out.block ba hba (by simp))
      have c0 : wr.cell? ⟨mb, 0, none⟩ = some (.pointer (some ⟨w.heap.size + 1, 0, none⟩)) := by rw [cells_of H.out.cell]; rfl
      have hn := HS.out k
      have hkl : k < l.length := by rw [HL.out.1]; omega
      have P : ∀ w1, RMemAt mb (w.heap.size + 1) w.heap.size l 0 0 w1 → Calls Tryd.prog 52 #[.pointer (some ⟨w.heap.size + 1, 0, none⟩), .int .i64 (k : Int), .int .u32 ((nth ns k : Nat) : Int)] w1 fun e w' => e = .returned (.bool true) ∧ RowAt 85 (w.heap.size + 1) w.heap.size (l.set k (enc (nth ns k))) 0 w' ∧ Upd [w.heap.size] w1 w' := fun w1 h => by
        have P := RPut_calls _ _ _ l 0 (k : Int) (nth ns k) w1 h.row hn
        rw [inn_of (by omega) (by omega), put_nat hkl] at P
        exact P
      replace P := Lib.hid P
      have n0 : ∀ x : Near [w.heap.size] wr, x.1.cell? ⟨mb, 0, none⟩ = some (.pointer (some ⟨w.heap.size + 1, 0, none⟩)) := fun x => by rw [cells_of (x.2.keep H.out.cell (by have := HMB.out; simp; omega))]; rfl
      have n1 : ∀ x : Near [w.heap.size] wr, x.1.cell? ⟨ba, oa + k, none⟩ = some (.int .u32 ((nth ns k : Nat) : Int)) := fun x => by
        rw [← cn]; exact World.cell?_of_block (w := wr) (x.2.block ba (Nat.lt_of_lt_of_le hba U.out.size) (by simp; omega))
      have HL2 := Lib.hid (show (l.set k (enc (nth ns k))).length = 1024 ∧ ∀ j, j < 1024 → nth (l.set k (enc (nth ns k))) j = if j < k + 1 then enc (nth ns j) else 0 from ⟨by simpa using HL.out.1, fun j hj => by
        by_cases e : j = k
        · subst e; rw [nth_set_eq hkl, if_pos (by omega)]
        · rw [nth_set_ne (by omega), HL.out.2 j hj]; split <;> split <;> first | rfl | omega⟩)
      clear hca hkl
      generalize nth ns k = n at cn hn P HL2 n1
      clear cn c0
      go_wp2_with (fail)
      refine wp_region_plan (fun z => ∃ x : Near [w.heap.size] wr, z = x.1) [([0, 1, 2, 3, 4, 5, 6, 7, 8], 9)] [] (by kernel_rfl) (by kernel_rfl) (by kernel_rfl) (by kernel_rfl) (fun _ d _ _ _ h => by cases d <;> exact h) ⟨⟨(wr).drew, (Upd.refl _ _).drew⟩, rfl⟩ ?_
      refine plan_next ?_
      simp only [opsAt, List.map_cons, List.map_nil, List.getElem?_toArray, List.getElem?_cons_zero, List.getElem?_cons_succ, Option.getD_some]
      repeat (go_big_quiet_step (fail))
      refine wpQuiet_nil ?_
      refine plan_one rfl ?_
      go_wp2_with fail
      refine (P.out _ (H.out.upd0 (Upd.refl _ _).drew)).mono ?_
      rintro e w3 ⟨rfl, r, u'⟩
      have u : Upd [w.heap.size] wr w3 := ((Upd.refl [w.heap.size] wr).drew).trans u'
      have H3 := Lib.hid (H.out.step r u (by simp))
      have U3 := Lib.hid (U.out.then u (fun x hx hlt => by simp at hx; omega))
      clear r u' P n0 n1
      go_wp2_with fail
      refine plan_same ⟨⟨_, u⟩, rfl⟩ ?_
      refine plan_last ?_
      simp only [opsAt, List.map_cons, List.map_nil, List.getElem?_toArray, List.getElem?_cons_zero, List.getElem?_cons_succ, Option.getD_some]
      repeat (go_big_quiet_step (fail))
      refine wpQuiet_nil ?_
      unfold planEnd
      go_wp2_with fail
      clear u
      go_roundg (M - (k + 1))
      case measure => omega
      case rel => exact ⟨k + 1, l.set k (enc n), by go_num, by omega, rfl, HL2, H3, U3⟩
    · obtain rfl : k = M := by omega
      go_wp2_with (fail)
      go_ret
      have e : l = R := by
        rw [HR.out]
        refine list_ext (by rw [HL.out.1, newL_len]) fun j hj => ?_
        have hj : j < 1024 := by rw [← HL.out.1]; exact hj
        rw [HL.out.2 j hj, newL_nth ns hj]
        split
        · rfl
        · rw [show nth ns j = 0 by simp [nth, show ns.length ≤ j by rw [← HM.out]; omega], enc_zero]
      have hmb := HMB.out
      subst hmb
      subst e
      exact ⟨rfl, H.out, U.out⟩

set_option maxRecDepth 20000 in
set_option maxHeartbeats 2000000 in
theorem RMScrub_calls (mb b d : Nat) (l : List Nat) (f a : Nat) (n : Int) (N : Nat) (w : World) (h : RMemAt mb b d l f a w) (hN : (N : Int) = max 0 (min n 1024)) (ha : a < 1024) (hf : f < 9223372036854770000) :
    Calls Tryd.prog 44 #[.pointer (some ⟨mb, 0, none⟩), .int .i64 n] w fun e w' =>
      e = .returned (.tuple #[.int .i64 ((if (scrN N ⟨l, f, a, 0, false⟩).e then 0 else (scrN N ⟨l, f, a, 0, false⟩).x : Nat) : Int), .int .i64 ((if (scrN N ⟨l, f, a, 0, false⟩).e then 25 else 0 : Nat) : Int)]) ∧
      RMemAt mb b d (scrN N ⟨l, f, a, 0, false⟩).l (scrN N ⟨l, f, a, 0, false⟩).f (scrN N ⟨l, f, a, 0, false⟩).a w' ∧ Upd [mb, b, d] w w' := by
  have H := Lib.hid h
  have hNl : N ≤ 1024 := by omega
  have hmin := min2_nat .i64 n 1024 _ rfl
  have hmax := max2_nat .i64 (min n 1024) 0 (N : Int) (by omega)
  clear h hN
  obtain ⟨s0, hs0⟩ : ∃ s0 : Scr, s0 = ⟨l, f, a, 0, false⟩ := ⟨_, rfl⟩
  rw [← hs0]
  have H0 : Hid (RMemAt mb b d s0.l s0.f s0.a w) := by rw [hs0]; exact H
  have hx0 : s0.x = 0 := by rw [hs0]
  have he0 : s0.e = false := by rw [hs0]
  have ha0 : s0.a < 1024 := by rw [hs0]; exact ha
  have hf0 : s0.f < 9223372036854770000 := by rw [hs0]; exact hf
  have HX := Lib.hid hx0
  have HE := Lib.hid he0
  clear H hs0 ha hf hx0 he0
  obtain ⟨R1, hR1⟩ : ∃ R1 : Nat, R1 = (if (scrN N s0).e then 0 else (scrN N s0).x) := ⟨_, rfl⟩
  obtain ⟨R2, hR2⟩ : ∃ R2 : Nat, R2 = (if (scrN N s0).e then 25 else 0) := ⟨_, rfl⟩
  rw [← hR1, ← hR2]
  have HR1 := Lib.hid hR1
  have HR2 := Lib.hid hR2
  clear hR1 hR2
  go_enter Tryd.func44, Tryd.ntmps44
  go_wp2_with (fail)
  go_loopg [6, 7, 8] N (fun g v6 v7 v8 wl => ∃ (k x y j : Nat), v8 = .int .i64 (j : Int) ∧ k + j = N ∧ g = j ∧ v6 = .int .i64 (x : Int) ∧ v7 = .int .i64 (y : Int) ∧ x ≤ k ∧ Hid (x = (scrN k s0).x ∧ y = if (scrN k s0).e then 25 else 0) ∧ Hid (RMemAt mb b d (scrN k s0).l (scrN k s0).f (scrN k s0).a wl) ∧ Hid (Upd [mb, b, d] w wl))
  case atStart => exact ⟨0, 0, 0, N, rfl, by omega, rfl, rfl, rfl, by omega, Lib.hid ⟨by rw [scrN, HX.out], by rw [scrN, HE.out]; rfl⟩, H0, Lib.hid (Upd.refl _ _)⟩
  case round =>
    clear H0
    obtain ⟨k, x, y, j, rfl, hk, hg, rfl, rfl, hx, HXY, H, U⟩ := hrel
    have hsf := scrN_f k s0
    have hsa := scrN_a k s0 ha0
    obtain ⟨s, hs⟩ : ∃ s, s = scrN k s0 := ⟨_, rfl⟩
    have hs1 : scrN (k + 1) s0 = scr1 s := by rw [scrN, ← hs]
    rw [← hs] at hsf hsa HXY H
    have HS1 := Lib.hid hs1
    have HS := Lib.hid hs
    clear hs1 hs
    rcases Nat.lt_or_ge 0 j with hkN | hkN
    · have SC := Lib.hid (RGet_calls _ b d s.l s.f (s.a : Int) wr.drew (H.out.row.upd0 (Upd.refl _ _).drew) (by omega))
      have hz := HS1.out
      have hnb := H.out.nb
      have hnd := H.out.nd
      have n0 : ∀ z : Near [b, d] wr, z.1.cell? ⟨mb, 0, none⟩ = some (.pointer (some ⟨b, 0, none⟩)) := fun z => by rw [cells_of (z.2.keep H.out.cell (by simp; omega))]; rfl
      have n1 : ∀ z : Near [b, d] wr, z.1.cell? ⟨mb, 1, none⟩ = some (.int .i64 (s.a : Int)) := fun z => by rw [cells_of (z.2.keep H.out.cell (by simp; omega))]; rfl
      have hxy := HXY.out
      unfold scr1 at hz
      obtain ⟨p, z, hpz⟩ : ∃ p z, peekL s.l (s.a : Int) = (p, z) := ⟨_, _, rfl⟩
      rw [hpz] at SC hz
      simp only at hz
      have HZ := Lib.hid hz
      clear hz hpz hxy
      have hm : (((s.a : Int) + 1) % 1024) = (((s.a + 1) % 1024 : Nat) : Int) := by simp
      generalize hm2 : (s.a + 1) % 1024 = a2 at hm
      have HM2 := Lib.hid hm2
      clear hm2
      go_wp2_with (fail)
      refine wp_region_plan (fun z => ∃ x : Near [b, d] wr, z = x.1) [([0, 1, 2, 3, 4, 5, 6, 7], 8)] [9, 10, 11, 12, 13] (by kernel_rfl) (by kernel_rfl) (by kernel_rfl) (by kernel_rfl) (fun _ d _ _ _ h => by cases d <;> exact h) ⟨⟨(wr).drew, (Upd.refl _ _).drew⟩, rfl⟩ ?_
      refine plan_next ?_
      simp only [opsAt, List.map_cons, List.map_nil, List.getElem?_toArray, List.getElem?_cons_zero, List.getElem?_cons_succ, Option.getD_some]
      repeat (go_big_quiet_step (fail))
      refine wpQuiet_nil ?_
      refine plan_one rfl ?_
      go_wp2_with fail
      refine SC.out.mono ?_
      rintro e w1 ⟨rfl, r, u⟩
      have U1 := Lib.hid (show Upd [b, d] wr w1 from ((Upd.refl _ _).drew).trans u)
      have H1 := Lib.hid (H.out.step r U1.out (by simp))
      clear r u
      go_wp2_with fail
      refine plan_same ⟨⟨_, U1.out⟩, rfl⟩ ?_
      refine plan_last ?_
      simp only [opsAt, List.map_cons, List.map_nil, List.getElem?_toArray, List.getElem?_cons_zero, List.getElem?_cons_succ, Option.getD_some]
      repeat (go_big_quiet_step (fail))
      refine wpQuiet_nil ?_
      unfold planEnd
      clear n0 n1
      obtain ⟨hx1, hy1⟩ := HXY.out
      by_cases z1 : z = 1
      · subst z1
        have HF := Lib.hid (show x + 1 = s.x + (if 1 = 1 then 1 else 0) ∧ y = (if (s.e || decide (1 = 2)) = true then 25 else 0) from ⟨by rw [hx1]; rfl, by rw [hy1]; simp⟩)
        clear hx1 hy1
        have c1 : w1.cell? ⟨mb, 1, none⟩ = some (.int .i64 (s.a : Int)) := by rw [cells_of H1.out.cell]; rfl
        have f1 : w1.frozen? ⟨mb, 1, none⟩ = false := free_of H1.out.cell 1
        go_wp2_with (fail)
        go_roundg (j - 1)
        case measure => omega
        case rel => exact ⟨k + 1, x + 1, y, j - 1, by rw [show ((j - 1 : Nat) : Int) = (j : Int) - 1 by omega], by omega, rfl, by first | rfl | go_num, by first | rfl | go_num, by omega, Lib.hid (by rw [HZ.out]; exact HF.out), Lib.hid (by rw [HS1.out]; show RMemAt mb b d _ _ ((s.a + 1) % 1024) _; rw [HM2.out]; exact H1.out.next a2), Lib.hid ((U.out.trans (U1.out.mono (by simp))).setCell (p := ⟨mb, 1, none⟩) (by simp) _)⟩
      · by_cases z2 : z = 2
        · subst z2
          have HF := Lib.hid (show x = s.x + (if 2 = 1 then 1 else 0) ∧ 25 = (if (s.e || decide (2 = 2)) = true then 25 else 0) from ⟨by rw [hx1]; rfl, by simp⟩)
          clear hx1 hy1
          have c1 : w1.cell? ⟨mb, 1, none⟩ = some (.int .i64 (s.a : Int)) := by rw [cells_of H1.out.cell]; rfl
          have f1 : w1.frozen? ⟨mb, 1, none⟩ = false := free_of H1.out.cell 1
          go_wp2_with (fail)
          go_roundg (j - 1)
          case measure => omega
          case rel => exact ⟨k + 1, x, 25, j - 1, by rw [show ((j - 1 : Nat) : Int) = (j : Int) - 1 by omega], by omega, rfl, by first | rfl | go_num, by first | rfl | go_num, by omega, Lib.hid (by rw [HZ.out]; exact HF.out), Lib.hid (by rw [HS1.out]; show RMemAt mb b d _ _ ((s.a + 1) % 1024) _; rw [HM2.out]; exact H1.out.next a2), Lib.hid ((U.out.trans (U1.out.mono (by simp))).setCell (p := ⟨mb, 1, none⟩) (by simp) _)⟩
        · have HF := Lib.hid (show x = s.x + (if z = 1 then 1 else 0) ∧ y = (if (s.e || decide (z = 2)) = true then 25 else 0) from ⟨by rw [hx1, if_neg z1, Nat.add_zero], by rw [hy1]; simp [z2]⟩)
          have d1 : ((z : Int) == 1) = false := by rw [beq_eq_false_iff_ne]; omega
          have d2 : ((z : Int) == 2) = false := by rw [beq_eq_false_iff_ne]; omega
          clear hx1 hy1
          have c1 : w1.cell? ⟨mb, 1, none⟩ = some (.int .i64 (s.a : Int)) := by rw [cells_of H1.out.cell]; rfl
          have f1 : w1.frozen? ⟨mb, 1, none⟩ = false := free_of H1.out.cell 1
          go_wp2_with (fail)
          go_roundg (j - 1)
          case measure => omega
          case rel => exact ⟨k + 1, x, y, j - 1, by rw [show ((j - 1 : Nat) : Int) = (j : Int) - 1 by omega], by omega, rfl, by first | rfl | go_num, by first | rfl | go_num, by omega, Lib.hid (by rw [HZ.out]; exact HF.out), Lib.hid (by rw [HS1.out]; show RMemAt mb b d _ _ ((s.a + 1) % 1024) _; rw [HM2.out]; exact H1.out.next a2), Lib.hid ((U.out.trans (U1.out.mono (by simp))).setCell (p := ⟨mb, 1, none⟩) (by simp) _)⟩
    · obtain rfl : j = 0 := by omega
      obtain rfl : k = N := by omega
      obtain ⟨hx1, hy1⟩ := HXY.out
      cases he : s.e
      · rw [he, if_neg (by decide)] at hy1
        subst hy1
        have HE := Lib.hid he
        have HX1 := Lib.hid hx1
        clear he hx1
        go_wp2_with (fail)
        go_ret2
        exact ⟨by rw [HR1.out, HR2.out, ← HS.out, HE.out, if_neg (by decide), if_neg (by decide), ← HX1.out]; rfl, by rw [← HS.out]; exact H.out, U.out⟩
      · rw [he, if_pos rfl] at hy1
        subst hy1
        have HE := Lib.hid he
        clear he hx1
        go_wp2_with (fail)
        go_ret2
        exact ⟨by rw [HR1.out, HR2.out, ← HS.out, HE.out, if_pos rfl, if_pos rfl]; rfl, by rw [← HS.out]; exact H.out, U.out⟩
end Go.Proofs.YtfnemolaoijbhacDoor
