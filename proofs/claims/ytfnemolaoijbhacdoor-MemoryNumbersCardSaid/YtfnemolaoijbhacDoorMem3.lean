/- Memory that mends itself, in memory: Scrub. -/
import Derived.Test.YtfnemolaoijbhacDoorMem2
namespace Go.Proofs.YtfnemolaoijbhacDoor
open Go.RowKit Go.Dio
set_option linter.unusedSimpArgs false
set_option linter.unusedVariables false

/-- What scrubbing so many words does: the words, how many were mended of all, where it stands, how many were mended, was one bad? -/
structure Scr where
  l : List Nat
  f : Nat
  a : Nat
  x : Nat
  e : Bool
def scr1 (s : Scr) : Scr := ⟨getL s.l (s.a : Int), s.f + getF s.l (s.a : Int), (s.a + 1) % 1024, s.x + (if (peekL s.l (s.a : Int)).2 = 1 then 1 else 0), s.e || decide ((peekL s.l (s.a : Int)).2 = 2)⟩
def scrN : Nat → Scr → Scr
  | 0, s => s
  | n + 1, s => scr1 (scrN n s)
theorem scr_len (s : Scr) : (scr1 s).l.length = s.l.length := getL_len _ _
theorem scrN_len : ∀ (n : Nat) (s : Scr), (scrN n s).l.length = s.l.length
  | 0, _ => rfl
  | n + 1, s => (scr_len _).trans (scrN_len n s)
theorem getF_one (l : List Nat) (i : Int) : getF l i ≤ 1 := by unfold getF; split <;> omega
theorem scrN_f : ∀ (n : Nat) (s : Scr), (scrN n s).f ≤ s.f + n
  | 0, _ => by simp [scrN]
  | n + 1, s => by have := scrN_f n s; have := getF_one (scrN n s).l ((scrN n s).a : Int); simp only [scrN, scr1]; omega
theorem scrN_x : ∀ (n : Nat) (s : Scr), (scrN n s).x ≤ s.x + n
  | 0, _ => by simp [scrN]
  | n + 1, s => by have := scrN_x n s; simp only [scrN, scr1]; split <;> omega
theorem scrN_a : ∀ (n : Nat) (s : Scr), s.a < 1024 → (scrN n s).a < 1024
  | 0, _, h => h
  | n + 1, s, h => Nat.mod_lt _ (by decide)

set_option maxRecDepth 20000 in
set_option maxHeartbeats 2000000 in
theorem MScrub_calls (mb b d : Nat) (l : List Nat) (f a : Nat) (n : Int) (N : Nat) (w : World) (h : MemAt mb b d l f a w) (hN : (N : Int) = max 0 (min n 1024)) (ha : a < 1024) (hf : f < 9223372036854770000) :
    Calls Tryd.prog 21 #[.pointer (some ⟨mb, 0, none⟩), .int .i64 n] w fun e w' =>
      e = .returned (.tuple #[.int .i64 ((if (scrN N ⟨l, f, a, 0, false⟩).e then 0 else (scrN N ⟨l, f, a, 0, false⟩).x : Nat) : Int), .int .i64 ((if (scrN N ⟨l, f, a, 0, false⟩).e then 25 else 0 : Nat) : Int)]) ∧
      MemAt mb b d (scrN N ⟨l, f, a, 0, false⟩).l (scrN N ⟨l, f, a, 0, false⟩).f (scrN N ⟨l, f, a, 0, false⟩).a w' ∧ Upd [mb, b, d] w w' := by
  have H := Lib.hid h
  have hNl : N ≤ 1024 := by omega
  have hmin := min2_nat .i64 n 1024 _ rfl
  have hmax := max2_nat .i64 0 (min n 1024) (N : Int) hN.symm
  clear h hN
  obtain ⟨s0, hs0⟩ : ∃ s0 : Scr, s0 = ⟨l, f, a, 0, false⟩ := ⟨_, rfl⟩
  rw [← hs0]
  have H0 : Hid (MemAt mb b d s0.l s0.f s0.a w) := by rw [hs0]; exact H
  have hx0 : s0.x = 0 := by rw [hs0]
  have he0 : s0.e = false := by rw [hs0]
  have ha0 : s0.a < 1024 := by rw [hs0]; exact ha
  have hf0 : s0.f < 9223372036854770000 := by rw [hs0]; exact hf
  have HX := Lib.hid hx0
  have HE := Lib.hid he0
  clear H hs0 ha hf hx0 he0
  obtain ⟨R1, hR1⟩ : ∃ R1 : Nat, R1 = (if (scrN N s0).e then 0 else (scrN N s0).x) := ⟨_, rfl⟩
  obtain ⟨R2, hR2⟩ : ∃ R2 : Nat, R2 = (if (scrN N s0).e then 25 else 0) := ⟨_, rfl⟩
  rw [← hR1, ← hR2]
  have HR1 := Lib.hid hR1
  have HR2 := Lib.hid hR2
  clear hR1 hR2
  go_enter Tryd.func21, Tryd.ntmps21
  go_wp2_with (fail)
  go_loopg [6, 7, 11] N (fun g v6 v7 v11 wl => ∃ (k x y : Nat), v11 = .int .i64 (k : Int) ∧ k ≤ N ∧ g = N - k ∧ v6 = .int .i64 (x : Int) ∧ v7 = .int .i64 (y : Int) ∧ x ≤ k ∧ Hid (x = (scrN k s0).x ∧ y = if (scrN k s0).e then 25 else 0) ∧ Hid (MemAt mb b d (scrN k s0).l (scrN k s0).f (scrN k s0).a wl) ∧ Hid (Upd [mb, b, d] w wl))
  case atStart => exact ⟨0, 0, 0, rfl, by omega, rfl, rfl, rfl, by omega, Lib.hid ⟨by rw [scrN, HX.out], by rw [scrN, HE.out]; rfl⟩, H0, Lib.hid (Upd.refl _ _)⟩
  case round =>
    clear H0
    obtain ⟨k, x, y, rfl, hk, hg, rfl, rfl, hx, HXY, H, U⟩ := hrel
    have hsf := scrN_f k s0
    have hsa := scrN_a k s0 ha0
    obtain ⟨s, hs⟩ : ∃ s, s = scrN k s0 := ⟨_, rfl⟩
    have hs1 : scrN (k + 1) s0 = scr1 s := by rw [scrN, ← hs]
    rw [← hs] at hsf hsa HXY H
    have HS1 := Lib.hid hs1
    have HS := Lib.hid hs
    clear hs1 hs
    rcases Nat.lt_or_ge k N with hkN | hkN
    · have SC := Lib.hid (Scrub_calls _ b d s.l s.f (s.a : Int) wr.drew (H.out.row.upd0 (Upd.refl _ _).drew) (by omega))
      have hz := HS1.out
      have hnb := H.out.nb
      have hnd := H.out.nd
      have n0 : ∀ z : Near [b, d] wr, z.1.cell? ⟨mb, 0, none⟩ = some (.pointer (some ⟨b, 0, none⟩)) := fun z => by rw [cells_of (z.2.keep H.out.cell (by simp; omega))]; rfl
      have n1 : ∀ z : Near [b, d] wr, z.1.cell? ⟨mb, 1, none⟩ = some (.int .i64 (s.a : Int)) := fun z => by rw [cells_of (z.2.keep H.out.cell (by simp; omega))]; rfl
      have hxy := HXY.out
      unfold scr1 at hz
      obtain ⟨p, z, hpz⟩ : ∃ p z, peekL s.l (s.a : Int) = (p, z) := ⟨_, _, rfl⟩
      rw [hpz] at SC hz
      simp only at hz
      have HZ := Lib.hid hz
      clear hz hpz hxy
      have hm : (((s.a : Int) + 1) % 1024) = (((s.a + 1) % 1024 : Nat) : Int) := by simp
      generalize hm2 : (s.a + 1) % 1024 = a2 at hm
      have HM2 := Lib.hid hm2
      clear hm2
      go_wp2_with (fail)
      refine wp_region_plan (fun z => ∃ x : Near [b, d] wr, z = x.1) [([0, 1, 2, 3, 4, 5, 6, 7], 8)] [] (by kernel_rfl) (by kernel_rfl) (by kernel_rfl) (by kernel_rfl) (fun _ d _ _ _ h => by cases d <;> exact h) ⟨⟨(wr).drew, (Upd.refl _ _).drew⟩, rfl⟩ ?_
      refine plan_next ?_
      simp only [opsAt, List.map_cons, List.map_nil, List.getElem?_toArray, List.getElem?_cons_zero, List.getElem?_cons_succ, Option.getD_some]
      repeat (go_big_quiet_step (fail))
      refine wpQuiet_nil ?_
      refine plan_one rfl ?_
      go_wp2_with fail
      refine SC.out.mono ?_
      rintro e w1 ⟨rfl, r, u⟩
      have U1 := Lib.hid (show Upd [b, d] wr w1 from ((Upd.refl _ _).drew).trans u)
      have H1 := Lib.hid (H.out.step r U1.out (by simp))
      clear r u
      go_wp2_with fail
      refine plan_same ⟨⟨_, U1.out⟩, rfl⟩ ?_
      refine plan_last ?_
      simp only [opsAt, List.map_cons, List.map_nil, List.getElem?_toArray, List.getElem?_cons_zero, List.getElem?_cons_succ, Option.getD_some]
      repeat (go_big_quiet_step (fail))
      refine wpQuiet_nil ?_
      unfold planEnd
      clear n0 n1
      obtain ⟨hx1, hy1⟩ := HXY.out
      by_cases z1 : z = 1
      · subst z1
        have HF := Lib.hid (show x + 1 = s.x + (if 1 = 1 then 1 else 0) ∧ y = (if (s.e || decide (1 = 2)) = true then 25 else 0) from ⟨by rw [hx1]; rfl, by rw [hy1]; simp⟩)
        clear hx1 hy1
        have c1 : w1.cell? ⟨mb, 1, none⟩ = some (.int .i64 (s.a : Int)) := by rw [cells_of H1.out.cell]; rfl
        have f1 : w1.frozen? ⟨mb, 1, none⟩ = false := free_of H1.out.cell 1
        go_wp2_with (fail)
        go_roundg (N - (k + 1))
        case measure => omega
        case rel => exact ⟨k + 1, x + 1, y, by go_num, by omega, rfl, by first | rfl | go_num, by first | rfl | go_num, by omega, Lib.hid (by rw [HZ.out]; exact HF.out), Lib.hid (by rw [HS1.out]; show MemAt mb b d _ _ ((s.a + 1) % 1024) _; rw [HM2.out]; exact H1.out.next a2), Lib.hid ((U.out.trans (U1.out.mono (by simp))).setCell (p := ⟨mb, 1, none⟩) (by simp) _)⟩
      · by_cases z2 : z = 2
        · subst z2
          have HF := Lib.hid (show x = s.x + (if 2 = 1 then 1 else 0) ∧ 25 = (if (s.e || decide (2 = 2)) = true then 25 else 0) from ⟨by rw [hx1]; rfl, by simp⟩)
          clear hx1 hy1
          have c1 : w1.cell? ⟨mb, 1, none⟩ = some (.int .i64 (s.a : Int)) := by rw [cells_of H1.out.cell]; rfl
          have f1 : w1.frozen? ⟨mb, 1, none⟩ = false := free_of H1.out.cell 1
          go_wp2_with (fail)
          go_roundg (N - (k + 1))
          case measure => omega
          case rel => exact ⟨k + 1, x, 25, by go_num, by omega, rfl, by first | rfl | go_num, by first | rfl | go_num, by omega, Lib.hid (by rw [HZ.out]; exact HF.out), Lib.hid (by rw [HS1.out]; show MemAt mb b d _ _ ((s.a + 1) % 1024) _; rw [HM2.out]; exact H1.out.next a2), Lib.hid ((U.out.trans (U1.out.mono (by simp))).setCell (p := ⟨mb, 1, none⟩) (by simp) _)⟩
        · have HF := Lib.hid (show x = s.x + (if z = 1 then 1 else 0) ∧ y = (if (s.e || decide (z = 2)) = true then 25 else 0) from ⟨by rw [hx1, if_neg z1, Nat.add_zero], by rw [hy1]; simp [z2]⟩)
          have d1 : ((z : Int) == 1) = false := by rw [beq_eq_false_iff_ne]; omega
          have d2 : ((z : Int) == 2) = false := by rw [beq_eq_false_iff_ne]; omega
          clear hx1 hy1
          have c1 : w1.cell? ⟨mb, 1, none⟩ = some (.int .i64 (s.a : Int)) := by rw [cells_of H1.out.cell]; rfl
          have f1 : w1.frozen? ⟨mb, 1, none⟩ = false := free_of H1.out.cell 1
          go_wp2_with (fail)
          go_roundg (N - (k + 1))
          case measure => omega
          case rel => exact ⟨k + 1, x, y, by go_num, by omega, rfl, by first | rfl | go_num, by first | rfl | go_num, by omega, Lib.hid (by rw [HZ.out]; exact HF.out), Lib.hid (by rw [HS1.out]; show MemAt mb b d _ _ ((s.a + 1) % 1024) _; rw [HM2.out]; exact H1.out.next a2), Lib.hid ((U.out.trans (U1.out.mono (by simp))).setCell (p := ⟨mb, 1, none⟩) (by simp) _)⟩
    · obtain rfl : k = N := by omega
      obtain ⟨hx1, hy1⟩ := HXY.out
      cases he : s.e
      · rw [he, if_neg (by decide)] at hy1
        subst hy1
        have HE := Lib.hid he
        have HX1 := Lib.hid hx1
        clear he hx1
        go_wp2_with (fail)
        go_ret2
        exact ⟨by rw [HR1.out, HR2.out, ← HS.out, HE.out, if_neg (by decide), if_neg (by decide), ← HX1.out]; rfl, by rw [← HS.out]; exact H.out, U.out⟩
      · rw [he, if_pos rfl] at hy1
        subst hy1
        have HE := Lib.hid he
        clear he hx1
        go_wp2_with (fail)
        go_ret2
        exact ⟨by rw [HR1.out, HR2.out, ← HS.out, HE.out, if_pos rfl, if_pos rfl]; rfl, by rw [← HS.out]; exact H.out, U.out⟩
end Go.Proofs.YtfnemolaoijbhacDoor
