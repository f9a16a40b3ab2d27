/- The document's decoding: its parts. -/
import Derived.Test.YtmdjhahafjlebaaGreatDoorQD07
import Derived.Test.YtmdjhahafjlebaaGreatDoorQD08
import Derived.Test.YtmdjhahafjlebaaGreatDoorQD05
namespace Go.Proofs.YtmdjhahafjlebaaGreatDoor
open Go.RowKit Go.Dio
set_option linter.unusedSimpArgs false
set_option linter.unusedVariables false

theorem pick_calls (A : Option Addr) (l : List Nat) (L c n : Nat) (z : World) (hL : L = l.length) (hA : NumsAt z .i64 A l) (hn : n < 2 ^ 32) (hl : l.length ≤ 8) :
    Calls Tryz.prog 88 #[.slice A L c, .int .u32 (n : Int)] z fun e z' => e = .returned (.int .i64 (nth l n : Int)) ∧ z' = z := by
  subst hL
  have p1 : IntKind.i64.wrap (n : Int) = (n : Int) := wrapi64 (by omega) (by omega)
  rcases Nat.lt_or_ge n l.length with h | h
  · obtain ⟨b, o, rfl, hb, hc⟩ := hA (by omega)
    have c1 := hc n h
    have e1 : decide ((n : Int) < (l.length : Int)) = true := decide_eq_true (by omega)
    generalize nth l n = r at c1 ⊢
    generalize l.length = L at *
    clear hc hb
    go_enter Tryz.func88, Tryz.ntmps88
    go_wp2_with (fail)
    go_ret
    exact ⟨rfl, rfl⟩
  · have e1 : decide ((n : Int) < (l.length : Int)) = false := decide_eq_false (by omega)
    rw [show nth l n = 0 by simp [nth, h]]
    generalize l.length = L at *
    clear hA
    go_enter Tryz.func88, Tryz.ntmps88
    go_wp2_with (fail)
    go_ret
    exact ⟨rfl, rfl⟩

theorem arith_calls (f7 f3 : Nat) (h3 : f3 < 8) (h7 : f7 < 128) (z : World) :
    Calls Tryz.prog 93 #[.int .u32 (f7 : Int), .int .u32 (f3 : Int)] z fun e z' => e = .returned (.int .i64 (opR f7 f3 : Int)) ∧ Upd [] z z' := by
  by_cases h0 : f7 = 0
  · subst h0
    go_enter Tryz.func93, Tryz.ntmps93
    go_wp2_with (fail)
    refine (pick_calls _ [28, 30, 31, 32, 33, 34, 36, 37] _ _ f3 _ rfl (numsAt_new _ .i64 [28, 30, 31, 32, 33, 34, 36, 37] 3) (by omega) (by decide)).mono ?_
    rintro e z1 ⟨rfl, rfl⟩
    go_wp2_with (fail)
    go_ret
    exact ⟨rfl, (Upd.refl _ _).alloc _⟩
  by_cases h1 : f7 = 1
  · subst h1
    go_enter Tryz.func93, Tryz.ntmps93
    go_wp2_with (fail)
    refine (pick_calls _ [38, 39, 40, 41, 42, 43, 44, 45] _ _ f3 _ rfl (numsAt_new _ .i64 [38, 39, 40, 41, 42, 43, 44, 45] 3) (by omega) (by decide)).mono ?_
    rintro e z1 ⟨rfl, rfl⟩
    go_wp2_with (fail)
    go_ret
    exact ⟨rfl, (Upd.refl _ _).alloc _⟩
  have d0 : ((f7 : Int) == 0) = false := (cast_ne_b h0).1
  have d1 : ((f7 : Int) == 1) = false := (cast_ne_b h1).1
  by_cases h2 : f7 = 32
  · subst h2
    have e : opR 32 f3 = nth [29, 0, 0, 0, 0, 35, 0, 0] f3 := by
      rcases (by omega : f3 = 0 ∨ f3 = 1 ∨ f3 = 2 ∨ f3 = 3 ∨ f3 = 4 ∨ f3 = 5 ∨ f3 = 6 ∨ f3 = 7) with rfl | rfl | rfl | rfl | rfl | rfl | rfl | rfl <;> rfl
    rw [e]
    go_enter Tryz.func93, Tryz.ntmps93
    go_wp2_with (fail)
    refine (pick_calls _ [29, 0, 0, 0, 0, 35, 0, 0] _ _ f3 _ rfl (numsAt_new _ .i64 [29, 0, 0, 0, 0, 35, 0, 0] 3) (by omega) (by decide)).mono ?_
    rintro e z1 ⟨rfl, rfl⟩
    go_wp2_with (fail)
    go_ret
    exact ⟨rfl, (Upd.refl _ _).alloc _⟩
  · have d2 : ((f7 : Int) == 32) = false := (cast_ne_b h2).1
    rw [opR, if_neg h0, if_neg h1, if_neg (by simp [h2]), if_neg (by simp [h2])]
    clear h0 h1 h2
    go_enter Tryz.func93, Tryz.ntmps93
    go_wp2_with (fail)
    go_ret
    exact ⟨rfl, Upd.refl _ _⟩

def immO (f3 f7 : Nat) : Nat := if f3 ≠ 1 ∧ f3 ≠ 5 then nth [19, 25, 20, 21, 22, 26, 23, 24] f3 else if f7 = 32 ∧ f3 = 5 then 27 else if f7 ≠ 0 then 0 else nth [19, 25, 20, 21, 22, 26, 23, 24] f3
def immV (w f3 f7 : Nat) : Int := if f3 ≠ 1 ∧ f3 ≠ 5 then immI w else if f7 = 32 ∧ f3 = 5 then ((fb w 20 5 : Nat) : Int) else if f7 ≠ 0 then 0 else ((fb w 20 5 : Nat) : Int)
theorem rimm_calls (w f3 : Nat) (hw : w < 2 ^ 32) (h3 : f3 < 8) (z : World) :
    Calls Tryz.prog 92 #[.int .u32 (w : Int), .int .u32 (f3 : Int)] z fun e z' => e = .returned (.tuple #[.int .i64 (immO f3 (fb w 25 7) : Int), .int .i32 (immV w f3 (fb w 25 7))]) ∧ Upd [] z z' := by
  have B7 := Lib.hid (fun z => rBits_calls w 25 7 z hw (by decide) (by decide) (by decide))
  have B5 := Lib.hid (fun z => rBits_calls w 20 5 z hw (by decide) (by decide) (by decide))
  have h5 := fb_lt w 20 5
  have p5 : IntKind.i32.wrap (fb w 20 5 : Int) = (fb w 20 5 : Int) := by rw [IntKind.wrap_i32]; omega
  by_cases hf : f3 ≠ 1 ∧ f3 ≠ 5
  · have e1 : (((nth [19, 25, 20, 21, 22, 26, 23, 24] f3 : Nat) : Int) != 25) = true := by
      rcases (by omega : f3 = 0 ∨ f3 = 2 ∨ f3 = 3 ∨ f3 = 4 ∨ f3 = 6 ∨ f3 = 7) with rfl | rfl | rfl | rfl | rfl | rfl <;> rfl
    have e2 : (((nth [19, 25, 20, 21, 22, 26, 23, 24] f3 : Nat) : Int) != 26) = true := by
      rcases (by omega : f3 = 0 ∨ f3 = 2 ∨ f3 = 3 ∨ f3 = 4 ∨ f3 = 6 ∨ f3 = 7) with rfl | rfl | rfl | rfl | rfl | rfl <;> rfl
    rw [show immO f3 (fb w 25 7) = nth [19, 25, 20, 21, 22, 26, 23, 24] f3 from if_pos hf, show immV w f3 (fb w 25 7) = immI w from if_pos hf]
    clear hf h5 p5
    go_enter Tryz.func92, Tryz.ntmps92
    go_wp2_with (fail)
    refine (pick_calls _ [19, 25, 20, 21, 22, 26, 23, 24] _ _ f3 _ rfl (numsAt_new _ .i64 [19, 25, 20, 21, 22, 26, 23, 24] 3) (by omega) (by decide)).mono ?_
    rintro e z1 ⟨rfl, rfl⟩
    go_wp2_with (fail)
    refine (rImmI_calls w _ hw).mono ?_
    rintro e z1 ⟨rfl, rfl⟩
    go_wp2_with (fail)
    go_ret2
    exact ⟨rfl, (Upd.refl _ _).alloc _⟩
  · generalize fb w 25 7 = f7 at *
    have hff : f3 = 1 ∨ f3 = 5 := by omega
    clear hf
    by_cases h0 : f7 = 0
    · subst h0
      rcases hff with rfl | rfl
      · skip
        rw [show immO 1 0 = 25 by rfl, show immV w 1 0 = ((fb w 20 5 : Nat) : Int) by rfl]
        go_enter Tryz.func92, Tryz.ntmps92
        go_wp2_with (fail)
        refine (pick_calls _ [19, 25, 20, 21, 22, 26, 23, 24] _ _ 1 _ rfl (numsAt_new _ .i64 [19, 25, 20, 21, 22, 26, 23, 24] 3) (by omega) (by decide)).mono ?_
        rintro e z1 ⟨rfl, rfl⟩
        go_wp2_with (fail)
        refine (B7.out _).mono ?_
        rintro e z1 ⟨rfl, rfl⟩
        go_wp2_with (fail)
        refine (B5.out _).mono ?_
        rintro e z1 ⟨rfl, rfl⟩
        go_wp2_with (fail)
        go_ret2
        exact ⟨rfl, (Upd.refl _ _).alloc _⟩
      · skip
        rw [show immO 5 0 = 26 by rfl, show immV w 5 0 = ((fb w 20 5 : Nat) : Int) by rfl]
        go_enter Tryz.func92, Tryz.ntmps92
        go_wp2_with (fail)
        refine (pick_calls _ [19, 25, 20, 21, 22, 26, 23, 24] _ _ 5 _ rfl (numsAt_new _ .i64 [19, 25, 20, 21, 22, 26, 23, 24] 3) (by omega) (by decide)).mono ?_
        rintro e z1 ⟨rfl, rfl⟩
        go_wp2_with (fail)
        refine (B7.out _).mono ?_
        rintro e z1 ⟨rfl, rfl⟩
        go_wp2_with (fail)
        refine (B5.out _).mono ?_
        rintro e z1 ⟨rfl, rfl⟩
        go_wp2_with (fail)
        go_ret2
        exact ⟨rfl, (Upd.refl _ _).alloc _⟩
    have d0 : ((f7 : Int) != 0) = true := (cast_ne_b h0).2
    by_cases h2 : f7 = 32
    · subst h2
      rcases hff with rfl | rfl
      · skip
        rw [show immO 1 32 = 0 by rfl, show immV w 1 32 = 0 by rfl]
        go_enter Tryz.func92, Tryz.ntmps92
        go_wp2_with (fail)
        refine (pick_calls _ [19, 25, 20, 21, 22, 26, 23, 24] _ _ 1 _ rfl (numsAt_new _ .i64 [19, 25, 20, 21, 22, 26, 23, 24] 3) (by omega) (by decide)).mono ?_
        rintro e z1 ⟨rfl, rfl⟩
        go_wp2_with (fail)
        refine (B7.out _).mono ?_
        rintro e z1 ⟨rfl, rfl⟩
        go_wp2_with (fail)
        go_ret2
        exact ⟨rfl, (Upd.refl _ _).alloc _⟩
      · skip
        rw [show immO 5 32 = 27 by rfl, show immV w 5 32 = ((fb w 20 5 : Nat) : Int) by rfl]
        go_enter Tryz.func92, Tryz.ntmps92
        go_wp2_with (fail)
        refine (pick_calls _ [19, 25, 20, 21, 22, 26, 23, 24] _ _ 5 _ rfl (numsAt_new _ .i64 [19, 25, 20, 21, 22, 26, 23, 24] 3) (by omega) (by decide)).mono ?_
        rintro e z1 ⟨rfl, rfl⟩
        go_wp2_with (fail)
        refine (B7.out _).mono ?_
        rintro e z1 ⟨rfl, rfl⟩
        go_wp2_with (fail)
        refine (B5.out _).mono ?_
        rintro e z1 ⟨rfl, rfl⟩
        go_wp2_with (fail)
        go_ret2
        exact ⟨rfl, (Upd.refl _ _).alloc _⟩
    have d2 : ((f7 : Int) == 32) = false := (cast_ne_b h2).1
    rcases hff with rfl | rfl
    · skip
      rw [show immO 1 f7 = 0 by simp [immO, h0, h2], show immV w 1 f7 = 0 by simp [immV, h0, h2]]
      clear h0 h2
      go_enter Tryz.func92, Tryz.ntmps92
      go_wp2_with (fail)
      refine (pick_calls _ [19, 25, 20, 21, 22, 26, 23, 24] _ _ 1 _ rfl (numsAt_new _ .i64 [19, 25, 20, 21, 22, 26, 23, 24] 3) (by omega) (by decide)).mono ?_
      rintro e z1 ⟨rfl, rfl⟩
      go_wp2_with (fail)
      refine (B7.out _).mono ?_
      rintro e z1 ⟨rfl, rfl⟩
      go_wp2_with (fail)
      go_ret2
      exact ⟨rfl, (Upd.refl _ _).alloc _⟩
    · skip
      rw [show immO 5 f7 = 0 by simp [immO, h0, h2], show immV w 5 f7 = 0 by simp [immV, h0, h2]]
      clear h0 h2
      go_enter Tryz.func92, Tryz.ntmps92
      go_wp2_with (fail)
      refine (pick_calls _ [19, 25, 20, 21, 22, 26, 23, 24] _ _ 5 _ rfl (numsAt_new _ .i64 [19, 25, 20, 21, 22, 26, 23, 24] 3) (by omega) (by decide)).mono ?_
      rintro e z1 ⟨rfl, rfl⟩
      go_wp2_with (fail)
      refine (B7.out _).mono ?_
      rintro e z1 ⟨rfl, rfl⟩
      go_wp2_with (fail)
      go_ret2
      exact ⟨rfl, (Upd.refl _ _).alloc _⟩
end Go.Proofs.YtmdjhahafjlebaaGreatDoor

namespace Go.Proofs.YtmdjhahafjlebaaGreatDoor
open Go.RowKit Go.Dio
set_option linter.unusedSimpArgs false
set_option linter.unusedVariables false

theorem info_i32 : (Tryz.prog.info? 21).map (·.size) = some 1 := by kernel_rfl
def rsysP (w f3 rd r1 : Nat) : InstV := if w = 115 then ⟨47, 0, 0, 0, 0⟩ else if w = 1048691 then ⟨48, 0, 0, 0, 0⟩ else if w = 807403635 then ⟨49, 0, 0, 0, 0⟩ else ⟨nth [0, 50, 51, 52, 0, 53, 54, 55] f3, rd, r1, 0, ((fb w 20 12 : Nat) : Int)⟩
theorem rsysP_1 (w f3 rd r1 : Nat) (h1 : w ≠ 115) (h2 : w ≠ 1048691) (h3 : w ≠ 807403635) : rsysP w f3 rd r1 = ⟨nth [0, 50, 51, 52, 0, 53, 54, 55] f3, rd, r1, 0, ((fb w 20 12 : Nat) : Int)⟩ := by
  unfold rsysP; rw [if_neg h1, if_neg h2, if_neg h3]
set_option maxRecDepth 20000 in
set_option maxHeartbeats 2000000 in
theorem rsys_calls (w f3 rd r1 r2 : Nat) (hw : w < 2 ^ 32) (h3 : f3 < 8) (zz : World) :
    Calls Tryz.prog 94 #[.int .u32 (w : Int), .int .u32 (f3 : Int), .agg (InstV.arr ⟨0, rd, r1, r2, 0⟩)] zz fun e z' => e = .returned (.tuple #[.agg (rsysP w f3 rd r1).arr, .bool (decide (0 < (rsysP w f3 rd r1).op))]) ∧ Upd [] zz z' := by
  by_cases w1 : w = 115
  · subst w1
    unfold InstV.arr
    go_enter Tryz.func94, Tryz.ntmps94
    go_wp2_with (fail)
    go_wp2_with (fail)
    refine bodyPost_ret (results_row_tmp rfl _ _ (zz.heap.size + 1) 69 (InstV.arr ⟨47, 0, 0, 0, 0⟩) _ _ _ rfl rfl (hl2 _ _ _) Tryz.underlying69 rfl info_inst) rfl ⟨rfl, ?_⟩
    repeat (first | exact Upd.refl _ _ | refine Upd.alloc ?_ _ | refine Upd.drewN _ ?_ | refine Upd.drew ?_)
  by_cases w2 : w = 1048691
  · subst w2
    unfold InstV.arr
    go_enter Tryz.func94, Tryz.ntmps94
    go_wp2_with (fail)
    go_wp2_with (fail)
    refine bodyPost_ret (results_row_tmp rfl _ _ (zz.heap.size + 1) 69 (InstV.arr ⟨48, 0, 0, 0, 0⟩) _ _ _ rfl rfl (hl2 _ _ _) Tryz.underlying69 rfl info_inst) rfl ⟨rfl, ?_⟩
    repeat (first | exact Upd.refl _ _ | refine Upd.alloc ?_ _ | refine Upd.drewN _ ?_ | refine Upd.drew ?_)
  by_cases w3 : w = 807403635
  · subst w3
    unfold InstV.arr
    go_enter Tryz.func94, Tryz.ntmps94
    go_wp2_with (fail)
    go_wp2_with (fail)
    refine bodyPost_ret (results_row_tmp rfl _ _ (zz.heap.size + 1) 69 (InstV.arr ⟨49, 0, 0, 0, 0⟩) _ _ _ rfl rfl (hl2 _ _ _) Tryz.underlying69 rfl info_inst) rfl ⟨rfl, ?_⟩
    repeat (first | exact Upd.refl _ _ | refine Upd.alloc ?_ _ | refine Upd.drewN _ ?_ | refine Upd.drew ?_)
  have d1 : ((w : Int) == 115) = false := (cast_ne_b w1).1
  have d2 : ((w : Int) == 1048691) = false := (cast_ne_b w2).1
  have d3 : ((w : Int) == 807403635) = false := (cast_ne_b w3).1
  rw [rsysP_1 w f3 rd r1 w1 w2 w3]
  clear w1 w2 w3
  have hf := fb_lt w 20 12
  have p1 : IntKind.i32.wrap (fb w 20 12 : Int) = (fb w 20 12 : Int) := by rw [IntKind.wrap_i32]; omega
  have BB := Lib.hid (fun z => rBits_calls w 20 12 z hw (by decide) (by decide) (by decide))
  obtain ⟨m, hm⟩ : ∃ m, m = fb w 20 12 := ⟨_, rfl⟩
  rw [← hm] at hf p1 BB ⊢
  clear hm
  have hO : 0 < nth [0, 50, 51, 52, 0, 53, 54, 55] f3 ∨ nth [0, 50, 51, 52, 0, 53, 54, 55] f3 = 0 := by omega
  go_enter Tryz.func94, Tryz.ntmps94
  go_upto_region 8 with (first
    | go_skip
    | fail)
  have B1 := Lib.hid (heap_old (hl1 zz (.cells (InstV.arr ⟨0, rd, r1, r2, 0⟩) 69)) (.cells noI.arr 69))
  have B2 := Lib.hid (hl2 zz (.cells (InstV.arr ⟨0, rd, r1, r2, 0⟩) 69) (.cells noI.arr 69))
  have U := Lib.hid (((Upd.refl [] zz).alloc (.cells (InstV.arr ⟨0, rd, r1, r2, 0⟩) 69)).alloc (.cells noI.arr 69))
  change Code.wp _ _ _ _ ((zz.alloc (.cells (InstV.arr ⟨0, rd, r1, r2, 0⟩) 69)).alloc (.cells noI.arr 69))
  generalize (zz.alloc (.cells (InstV.arr ⟨0, rd, r1, r2, 0⟩) 69)).alloc (.cells noI.arr 69) = W at B1 B2 U ⊢
  go_wp2_with (fail)
  refine (pick_calls _ [0, 50, 51, 52, 0, 53, 54, 55] _ _ f3 _ rfl (numsAt_new _ .i64 [0, 50, 51, 52, 0, 53, 54, 55] 3) (by omega) (by decide)).mono ?_
  rintro e z1 ⟨rfl, rfl⟩
  obtain ⟨o, ho⟩ : ∃ o, o = nth [0, 50, 51, 52, 0, 53, 54, 55] f3 := ⟨_, rfl⟩
  have HO := Lib.hid ho
  rw [← ho]
  clear ho hO
  have D1 := Lib.hid (heap_old B1.out (.cells (nums .i64 [0, 50, 51, 52, 0, 53, 54, 55]) 3))
  have D2 := Lib.hid (heap_old B2.out (.cells (nums .i64 [0, 50, 51, 52, 0, 53, 54, 55]) 3))
  have UD := Lib.hid (U.out.alloc (.cells (nums .i64 [0, 50, 51, 52, 0, 53, 54, 55]) 3))
  generalize hX : World.alloc W _ = X
  have hX2 : W.alloc (.cells (nums .i64 [0, 50, 51, 52, 0, 53, 54, 55]) 3) = X := hX
  rw [hX2] at D1 D2 UD
  clear hX hX2 B1 B2 U
  go_wp2_with (first
    | go_skip
    | ((with_reducible refine at_st 21 ?_); refine L_store_int 3 (.tmp 21) _ rfl (by kernel_rfl) zz.heap.size 0 rfl (InstV.arr ⟨0, rd, r1, r2, 0⟩).toList 69 D1.out .i64 (o : Int) rfl info_int1 (show 0 < 5 by decide) ?_))
  intro wA bA uA zA
  have E1 := Lib.hid bA
  have E2 := Lib.hid (uA.keep D2.out (by simp))
  have UE := Lib.hid (UD.out.then uA (fun x hx hlt => by simp at hx; omega))
  clear bA uA zA D1 D2 UD
  go_wp2_with (fail)
  refine (BB.out _).mono ?_
  rintro e z1 ⟨rfl, rfl⟩
  go_wp2_with (first
    | go_skip
    | ((with_reducible refine at_st 25 ?_); refine L_store_int 3 (.tmp 25) _ rfl (by kernel_rfl) zz.heap.size 3 rfl _ 69 E1.out .i64 0 rfl info_int1 (show 3 < 5 by decide) ?_))
  intro wB bB uB zB
  have F1 := Lib.hid bB
  have F2 := Lib.hid (uB.keep E2.out (by simp))
  have UF := Lib.hid (UE.out.then uB (fun x hx hlt => by simp at hx; omega))
  clear bB uB zB E1 E2 UE
  go_wp2_with (first
    | go_skip
    | ((with_reducible refine at_st 26 ?_); refine L_store_int 21 (.tmp 26) _ rfl (by kernel_rfl) zz.heap.size 4 rfl _ 69 F1.out .i32 (m : Int) rfl info_i32 (show 4 < 5 by decide) ?_))
  intro wC bC uC zC
  have G1 : Hid (wC.heap[zz.heap.size]? = some (.cells (InstV.arr ⟨o, rd, r1, 0, (m : Int)⟩) 69 (0, 0))) := Lib.hid bC
  have G2 := Lib.hid (uC.keep F2.out (by simp))
  have UG := Lib.hid (UF.out.then uC (fun x hx hlt => by simp at hx; omega))
  clear bC uC zC F1 F2 UF
  go_wp2_with (fail)
  have R1 := Lib.hid (fun x : Near [zz.heap.size + 1] wC => row_range (x.2.keep G1.out (by simp)))
  have n0 : ∀ x : Near [zz.heap.size + 1] wC, x.1.cell? ⟨zz.heap.size, 0, none⟩ = some (.int .i64 (o : Int)) := fun x => by rw [cells_of (x.2.keep G1.out (by simp))]; rfl
  obtain ⟨dd, hdd⟩ : ∃ dd, dd = decide (0 < o) := ⟨_, rfl⟩
  have HDD := Lib.hid hdd
  have hB : decide ((0 : Int) < (o : Int)) = dd := by rw [hdd]; by_cases h : 0 < o <;> simp [h]
  clear hdd
  refine wp_region_plan (fun z => ∃ x : Near [zz.heap.size + 1] wC, z = x.1) [([0, 1, 2, 3], 4)] [5] (by kernel_rfl) (by kernel_rfl) (by kernel_rfl) (by kernel_rfl) (fun _ d _ _ _ h => by cases d <;> exact h) ⟨⟨(wC).drew, (Upd.refl _ _).drew⟩, rfl⟩ ?_
  refine plan_next ?_
  simp only [opsAt, List.map_cons, List.map_nil, List.getElem?_toArray, List.getElem?_cons_zero, List.getElem?_cons_succ, Option.getD_some]
  repeat (first
    | go_big_quiet_step (fail)
    | (refine Q_load 69 (.tmp 5) rfl (by kernel_rfl) _ _ rfl (InstV.arr ⟨o, rd, r1, 0, (m : Int)⟩) (by rintro _ ⟨y, rfl⟩; exact R1.out y) Tryz.underlying69 rfl 5 info_inst rfl ?_; go_simp))
  refine wpQuiet_nil ?_
  refine plan_one rfl ?_
  refine L_store_row 69 (.tmp 6) (.tmp 27) rfl (by kernel_rfl) (zz.heap.size + 1) 0 rfl noI.arr.toList 69 (show (World.drew wC).heap[zz.heap.size + 1]? = _ from G2.out) (InstV.arr ⟨o, rd, r1, 0, (m : Int)⟩) rfl 5 info_inst rfl (by decide) (InstV.one _) ?_
  intro wD bD uD zD
  rw [spl_all (by rfl)] at bD
  refine plan_same ⟨⟨_, ((Upd.refl _ _).drew).trans uD⟩, rfl⟩ ?_
  refine plan_last ?_
  simp only [opsAt, List.map_cons, List.map_nil, List.getElem?_toArray, List.getElem?_cons_zero, List.getElem?_cons_succ, Option.getD_some]
  go_simp
  repeat (go_big_quiet_step (fail))
  refine wpQuiet_nil ?_
  unfold planEnd
  go_wp2_with fail
  refine bodyPost_ret (results_row_tmp rfl _ _ (zz.heap.size + 1) 69 (InstV.arr ⟨o, rd, r1, 0, (m : Int)⟩) _ _ _ rfl rfl bD Tryz.underlying69 rfl info_inst) rfl ⟨by rw [← HO.out, ← HDD.out]; rfl, ?_⟩
  exact (UG.out.drew).then uD (fun x hx hlt => by simp at hx; omega)
end Go.Proofs.YtmdjhahafjlebaaGreatDoor
