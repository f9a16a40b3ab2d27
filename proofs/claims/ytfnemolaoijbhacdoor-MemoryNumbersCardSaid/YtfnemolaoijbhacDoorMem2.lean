/- Memory that mends itself, in memory: Store, Scrub. -/
import Derived.Test.YtfnemolaoijbhacDoorMem
import Derived.Test.YtfnemolaoijbhacDoorMrg
namespace Go.Proofs.YtfnemolaoijbhacDoor
open Go.RowKit Go.Dio
set_option linter.unusedSimpArgs false
set_option linter.unusedVariables false

theorem and15 (z : Int) : bits .and .i64 z 15 = z % 16 := by
  have e : bits .and .i64 z 15 = IntKind.i64.wrap (((BitVec.ofInt 64 z) &&& (BitVec.ofInt 64 15)).toNat : Int) := rfl
  have h1 : (BitVec.ofInt 64 15 : BitVec 64).toNat = 2 ^ 4 - 1 := by decide
  rw [BitVec.toNat_and, h1, Nat.and_two_pow_sub_one_eq_mod] at e
  rw [e, wrapi64 (Int.natCast_nonneg _) (by have := Nat.mod_lt (BitVec.ofInt 64 z).toNat (show 0 < 2 ^ 4 by decide); omega)]
  rw [BitVec.toNat_ofInt]
  omega
def mstoreE (l : List Nat) (v : Nat) (mask : Int) : Nat := if mayE v ≠ 0 then mayE v else if (peekL l ((v / 4 : Nat) : Int)).2 = 2 ∧ mask % 16 ≠ 15 then 25 else 0
def mstoreL (l : List Nat) (v data : Nat) (mask : Int) : List Nat :=
  if mayE v ≠ 0 then l else if (peekL l ((v / 4 : Nat) : Int)).2 = 2 ∧ mask % 16 ≠ 15 then getL l ((v / 4 : Nat) : Int) else putL (getL l ((v / 4 : Nat) : Int)) ((v / 4 : Nat) : Int) (mrg (peekL l ((v / 4 : Nat) : Int)).1 data mask)
theorem peek_lt (l : List Nat) (i : Int) : (peekL l i).1 < 2 ^ 32 := by
  unfold peekL; split
  · unfold dec; exact Nat.mod_lt _ (by decide)
  · decide
set_option maxHeartbeats 1000000 in
theorem MStore_calls (mb b d : Nat) (l : List Nat) (f at' : Nat) (v data : Nat) (mask : Int) (w : World) (h : MemAt mb b d l f at' w) (hv : v < 2 ^ 32) (hd : data < 2 ^ 32) (hf : f < 9223372036854775806) :
    Calls Tryd.prog 19 #[.pointer (some ⟨mb, 0, none⟩), .int .u32 (v : Int), .int .u32 (data : Int), .int .i64 mask] w fun e w' => e = .returned (.int .i64 (mstoreE l v mask : Int)) ∧ MemAt mb b d (mstoreL l v data mask) (f + mloadF l v) at' w' ∧ Upd [b, d] w w' := by
  have cb := cells_of h.cell
  have c0 : w.cell? ⟨mb, 0, none⟩ = some (.pointer (some ⟨b, 0, none⟩)) := by rw [cb]; rfl
  clear cb
  have H := Lib.hid h
  have M := Lib.hid (may_calls v w hv)
  by_cases hm : mayE v = 0
  · rw [hm] at M
    obtain ⟨_, hlt⟩ := mayE_ok hm
    have G := Lib.hid (Get_calls _ b d l f ((v / 4 : Nat) : Int) w h.row hf)
    have e3 : mloadF l v = getF l ((v / 4 : Nat) : Int) := by rw [mloadF, if_neg (by omega)]
    have e2 : mstoreL l v data mask = if (peekL l ((v / 4 : Nat) : Int)).2 = 2 ∧ mask % 16 ≠ 15 then getL l ((v / 4 : Nat) : Int) else putL (getL l ((v / 4 : Nat) : Int)) ((v / 4 : Nat) : Int) (mrg (peekL l ((v / 4 : Nat) : Int)).1 data mask) := by rw [mstoreL, if_neg (by omega)]
    have e1 : mstoreE l v mask = if (peekL l ((v / 4 : Nat) : Int)).2 = 2 ∧ mask % 16 ≠ 15 then 25 else 0 := by rw [mstoreE, if_neg (by omega)]
    rw [e1, e2, e3]
    clear e1 e2 e3
    have hq : (v : Int) / 4 = ((v / 4 : Nat) : Int) := by omega
    have hql : v / 4 < 1024 := by omega
    have hpl := peek_lt l ((v / 4 : Nat) : Int)
    generalize v / 4 = q at G hq hql hpl ⊢
    generalize getL l (q : Int) = l1 at G ⊢
    generalize f + getF l (q : Int) = f2 at G ⊢
    obtain ⟨y, z, hyz⟩ : ∃ y z, peekL l (q : Int) = (y, z) := ⟨_, _, rfl⟩
    rw [hyz] at G hpl ⊢
    simp only at hpl ⊢
    have h15 := and15 mask
    obtain ⟨m15, hm15⟩ : ∃ m15, m15 = mask % 16 := ⟨_, rfl⟩
    rw [← hm15] at h15 ⊢
    clear h hm hyz hm15 hlt
    by_cases hz : z = 2 ∧ m15 ≠ 15
    · obtain ⟨hz, hm⟩ := hz
      rw [if_pos ⟨hz, hm⟩, if_pos ⟨hz, hm⟩]
      subst hz
      have d15 : (m15 != 15) = true := by rw [bne_iff_ne]; exact hm
      go_enter Tryd.func19, Tryd.ntmps19
      go_wp2_with (fail)
      refine M.out.mono ?_
      rintro e w' ⟨rfl, rfl⟩
      go_wp2_with (fail)
      refine G.out.mono ?_
      rintro e w1 ⟨rfl, r, u⟩
      go_wp2_with (fail)
      go_ret
      exact ⟨rfl, H.out.step r u (by simp), u⟩
    · rw [if_neg hz, if_neg hz]
      have dz : (((z : Int) == 2) && (m15 != 15)) = false := by
        by_cases z2 : z = 2
        · have : m15 = 15 := by omega
          subst z2 this; rfl
        · have : ((z : Int) == 2) = false := by rw [beq_eq_false_iff_ne]; omega
          rw [this]; rfl
      go_enter Tryd.func19, Tryd.ntmps19
      go_wp2_with (fail)
      refine M.out.mono ?_
      rintro e w' ⟨rfl, rfl⟩
      go_wp2_with (fail)
      refine G.out.mono ?_
      rintro e w1 ⟨rfl, r, u⟩
      have H1 := Lib.hid (H.out.step r u (by simp))
      clear r
      by_cases z2 : z = 2
      · have m2 : m15 = 15 := by omega
        subst z2 m2
        go_wp2_with (fail)
        have n0 : ∀ x : Near [d] w1, x.1.cell? ⟨mb, 0, none⟩ = some (.pointer (some ⟨b, 0, none⟩)) := fun x => by rw [cells_of (x.2.keep H1.out.cell (by have := H1.out.nd; simp; omega))]; rfl
        refine wp_region_plan (fun z => ∃ x : Near [d] w1, z = x.1) [([0, 1, 2, 3, 4, 5, 6, 7], 8), ([], 9)] [] (by kernel_rfl) (by kernel_rfl) (by kernel_rfl) (by kernel_rfl) (fun _ d _ _ _ h => by cases d <;> exact h) ⟨⟨(w1).drew, (Upd.refl _ _).drew⟩, rfl⟩ ?_
        refine plan_next ?_
        simp only [opsAt, List.map_cons, List.map_nil, List.getElem?_toArray, List.getElem?_cons_zero, List.getElem?_cons_succ, Option.getD_some]
        repeat (go_big_quiet_step (fail))
        refine wpQuiet_nil ?_
        refine plan_one rfl ?_
        go_wp2_with fail
        refine (Merge_calls y data mask _ hpl hd).mono ?_
        rintro e w2 ⟨rfl, rfl⟩
        go_wp2_with fail
        refine plan_same ⟨⟨_, (Upd.refl _ _).drew⟩, rfl⟩ ?_
        refine plan_next ?_
        simp only [opsAt, List.map_cons, List.map_nil, List.getElem?_toArray, List.getElem?_cons_zero, List.getElem?_cons_succ, Option.getD_some]
        repeat (go_big_quiet_step (fail))
        refine wpQuiet_nil ?_
        refine plan_one rfl ?_
        go_wp2_with fail
        have hml := mrgK_lt (mask := mask) hpl hd 4
        refine (Put_calls _ b d l1 f2 (q : Int) (mrg y data mask) _ (H1.out.row.upd0 (Upd.refl _ _).drew) hml).mono ?_
        rintro e w3 ⟨rfl, r3, u3⟩
        have U3 : Upd [d] w1 w3 := ((Upd.refl [d] w1).drew).trans u3
        have H3 := Lib.hid (H1.out.step r3 U3 (by simp))
        go_wp2_with fail
        refine plan_same ⟨⟨_, U3⟩, rfl⟩ ?_
        refine plan_last ?_
        simp only [opsAt, List.map_cons, List.map_nil, List.getElem?_toArray, List.getElem?_cons_zero, List.getElem?_cons_succ, Option.getD_some]
        repeat (go_big_quiet_step (fail))
        refine wpQuiet_nil ?_
        unfold planEnd
        go_wp2_with fail
        go_ret
        exact ⟨rfl, H3.out, u.trans (U3.mono (by simp))⟩
      · have dz2 : ((z : Int) == 2) = false := by rw [beq_eq_false_iff_ne]; omega
        go_wp2_with (fail)
        have n0 : ∀ x : Near [d] w1, x.1.cell? ⟨mb, 0, none⟩ = some (.pointer (some ⟨b, 0, none⟩)) := fun x => by rw [cells_of (x.2.keep H1.out.cell (by have := H1.out.nd; simp; omega))]; rfl
        refine wp_region_plan (fun z => ∃ x : Near [d] w1, z = x.1) [([0, 1, 2, 3, 4, 5, 6, 7], 8), ([], 9)] [] (by kernel_rfl) (by kernel_rfl) (by kernel_rfl) (by kernel_rfl) (fun _ d _ _ _ h => by cases d <;> exact h) ⟨⟨(w1).drew, (Upd.refl _ _).drew⟩, rfl⟩ ?_
        refine plan_next ?_
        simp only [opsAt, List.map_cons, List.map_nil, List.getElem?_toArray, List.getElem?_cons_zero, List.getElem?_cons_succ, Option.getD_some]
        repeat (go_big_quiet_step (fail))
        refine wpQuiet_nil ?_
        refine plan_one rfl ?_
        go_wp2_with fail
        refine (Merge_calls y data mask _ hpl hd).mono ?_
        rintro e w2 ⟨rfl, rfl⟩
        go_wp2_with fail
        refine plan_same ⟨⟨_, (Upd.refl _ _).drew⟩, rfl⟩ ?_
        refine plan_next ?_
        simp only [opsAt, List.map_cons, List.map_nil, List.getElem?_toArray, List.getElem?_cons_zero, List.getElem?_cons_succ, Option.getD_some]
        repeat (go_big_quiet_step (fail))
        refine wpQuiet_nil ?_
        refine plan_one rfl ?_
        go_wp2_with fail
        have hml := mrgK_lt (mask := mask) hpl hd 4
        refine (Put_calls _ b d l1 f2 (q : Int) (mrg y data mask) _ (H1.out.row.upd0 (Upd.refl _ _).drew) hml).mono ?_
        rintro e w3 ⟨rfl, r3, u3⟩
        have U3 : Upd [d] w1 w3 := ((Upd.refl [d] w1).drew).trans u3
        have H3 := Lib.hid (H1.out.step r3 U3 (by simp))
        go_wp2_with fail
        refine plan_same ⟨⟨_, U3⟩, rfl⟩ ?_
        refine plan_last ?_
        simp only [opsAt, List.map_cons, List.map_nil, List.getElem?_toArray, List.getElem?_cons_zero, List.getElem?_cons_succ, Option.getD_some]
        repeat (go_big_quiet_step (fail))
        refine wpQuiet_nil ?_
        unfold planEnd
        go_wp2_with fail
        go_ret
        exact ⟨rfl, H3.out, u.trans (U3.mono (by simp))⟩
  · have e1 : mstoreE l v mask = mayE v := by rw [mstoreE, if_pos hm]
    have e2 : mstoreL l v data mask = l := by rw [mstoreL, if_pos hm]
    have e3 : mloadF l v = 0 := by rw [mloadF, if_pos hm]
    rw [e1, e2, e3]
    generalize mayE v = e at M hm ⊢
    have d0 : ((e : Int) != 0) = true := by rw [bne_iff_ne]; omega
    clear h e1 e2 e3 c0
    go_enter Tryd.func19, Tryd.ntmps19
    go_wp2_with (fail)
    refine M.out.mono ?_
    rintro e w' ⟨rfl, rfl⟩
    go_wp2_with (fail)
    go_ret
    exact ⟨rfl, H.out, Upd.refl _ _⟩
end Go.Proofs.YtfnemolaoijbhacDoor
