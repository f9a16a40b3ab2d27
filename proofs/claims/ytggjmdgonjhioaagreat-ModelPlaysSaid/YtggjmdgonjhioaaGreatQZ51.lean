/- Law 11's same: two machines of one state. -/
import Derived.Test.YtggjmdgonjhioaaGreatQZ50
namespace Go.Proofs.YtggjmdgonjhioaaGreat
open Go.RowKit Go.Dio
set_option linter.unusedSimpArgs false
set_option linter.unusedVariables false

theorem rf_range {rb gb base : Nat} {tv : Value} {s : MSt} {w : World} (h : RfAt rb gb base tv s w) : w.rangeAt rb 0 (stL s (.slice (some ⟨gb, 0, none⟩) 1024 1024)) := fun j v hv => by
  rw [cells_of h.cell, Nat.zero_add, List.getElem?_toArray, mcells_stL, List.getElem?_append_left (List.getElem?_eq_some_iff.1 hv).1]
  exact hv
set_option maxRecDepth 20000 in
set_option maxHeartbeats 8000000 in
theorem lsame_calls {zz : World} {m1 g1 m2 g2 B : Nat} {s : MSt} {w : World} (k : Blk zz m1 g1 m2 g2 B) (h : Bo zz m1 g1 m2 g2 B s s w) (iv : MInv s) (ht : s.trace.length ≤ 4000) :
    Calls Tryz.prog 14 #[.pointer (some ⟨m1, 0, none⟩), .pointer (some ⟨m2, 0, none⟩)] w fun e z' => e = .returned (.bool true) ∧ Upd [] w z' := by
  obtain ⟨ta, tb, ma, mb, hs⟩ := h.ex
  have OK := Lib.hid iv.ok
  have H1 := Lib.hid (h.fst k)
  have MB := Lib.hid mb
  clear ma hs iv h
  go_enter Tryz.func14, Tryz.ntmps14
  go_wp2_with (fail)
  refine (one_halted H1.out OK.out).mono ?_
  rintro e w1 ⟨rfl, u1⟩
  have O1 := Lib.hid (H1.out.upd0 u1)
  have U1 := Lib.hid u1
  clear u1
  go_wp2_with (fail)
  refine (one_trace O1.out OK.out (by omega)).mono ?_
  rintro e w2 ⟨A, cap, rfl, nA, u2, _, _⟩
  have NA := Lib.hid nA
  have O2 := Lib.hid (O1.out.upd0 u2)
  have U2 := Lib.hid (U1.out.trans u2)
  have M2 := Lib.hid (MB.out.upd0 U2.out)
  clear nA u2 O1 U1 H1 MB
  obtain ⟨Bq, cq, htb, _, _, hN, _⟩ := M2.out.own.words
  have NB := Lib.hid hN
  have HTB := Lib.hid htb
  clear hN htb
  have n39 : ∀ x : Near [] w2, x.1.cell? ⟨m2, 39, none⟩ = some (.slice Bq s.trace.length cq) := fun x => by rw [(M2.out.upd0 x.2).cAt 39, mc_tail s g2 tb 1 OK.out.regs OK.out.csrs, ← HTB.out]; rfl
  have n40 : ∀ x : Near [] w2, x.1.cell? ⟨m2, 40, none⟩ = some (.bool s.halted) := fun x => by rw [(M2.out.upd0 x.2).cAt 40, mc_tail s g2 tb 2 OK.out.regs OK.out.csrs]; rfl
  have n41 : ∀ x : Near [] w2, x.1.cell? ⟨m2, 41, none⟩ = some (.int .u32 (s.code : Int)) := fun x => by rw [(M2.out.upd0 x.2).cAt 41, mc_tail s g2 tb 3 OK.out.regs OK.out.csrs]; rfl
  have n42 : ∀ x : Near [] w2, x.1.cell? ⟨m2, 42, none⟩ = some (.int .i64 (s.steps : Int)) := fun x => by rw [(M2.out.upd0 x.2).cAt 42, mc_tail s g2 tb 4 OK.out.regs OK.out.csrs]; rfl
  have PX : Hid (∀ z, Upd [] w2 z → Calls Tryz.prog 34 #[.slice A s.trace.length cap, .slice Bq s.trace.length cq] z fun e z' => e = .returned (.bool true) ∧ Upd [] z z') := Lib.hid (fun z u => by
    refine (RefPrefix_calls A Bq s.trace s.trace cap cq z (NA.out.of_upd u) (NB.out.of_upd u) (by omega)).mono ?_
    rintro e z' ⟨rfl, hb⟩
    exact ⟨by rw [pre_iff.2 (List.prefix_refl _)], Upd.of_below hb⟩)
  obtain ⟨V2, hV2⟩ : ∃ V : StV, V = ⟨s.pc, s.regs, s.csrs, some ⟨g2, 0, none⟩, s.mem, 1024⟩ := ⟨_, rfl⟩
  have hA2 : V2.arr = (stL s (.slice (some ⟨g2, 0, none⟩) 1024 1024)).toArray := by rw [hV2]; show (stL s (.slice (some ⟨g2, 0, none⟩) s.mem.length 1024)).toArray = _; rw [OK.out.mem]
  have RN : Hid (∀ z, Upd [] w2 z → z.rangeAt m2 0 V2.arr.toList) := Lib.hid (fun z u => by rw [hA2]; exact rf_range (M2.out.upd0 u))
  have OK2 : Hid (∀ z, Upd [] w2 z → V2.OK z) := Lib.hid (fun z u => by
    rw [hV2]
    exact ⟨OK.out.regs, OK.out.csrs, fun _ => ⟨g2, 0, rfl, lt_of_block (u.keep M2.out.mem (by simp)), fun i hi => by rw [Nat.zero_add, cells_of (u.keep M2.out.mem (by simp))]; exact nums_nth .u32 s.mem i hi⟩, by show s.mem.length ≤ 1024; rw [OK.out.mem]; exact Nat.le_refl _, by show (1024 : Nat) ≤ _; omega⟩)
  have s2 : V2.arr.size = 39 := StV.arr_size (by rw [hV2]; exact OK.out.regs) (by rw [hV2]; exact OK.out.csrs)
  have HV2 := Lib.hid hV2
  clear hV2 hA2
  go_wp2_with (fail)
  refine wp_region_plan (fun z => ∃ x : Near [] w2, z = x.1) [([0, 1, 2, 3, 4, 5, 6, 7, 8, 9, 10, 11, 12, 13, 14, 15, 16, 17, 18, 19, 20, 21, 22, 23, 24, 25, 26, 27, 28, 29], 30), ([31, 32, 33, 35, 36, 37, 38], 34), ([39, 40, 41, 42, 44, 45, 46, 47], 43), ([], 48)] [49, 50] (by kernel_rfl) (by kernel_rfl) (by kernel_rfl) (by kernel_rfl) (fun _ d _ _ _ h => by cases d <;> exact h) ⟨⟨(w2).drew, (Upd.refl _ _).drew⟩, rfl⟩ ?_
  refine plan_next ?_
  simp only [opsAt, List.map_cons, List.map_nil, List.getElem?_toArray, List.getElem?_cons_zero, List.getElem?_cons_succ, Option.getD_some]
  repeat (go_big_quiet_step (fail))
  refine wpQuiet_nil ?_
  refine plan_one rfl ?_
  go_wp2_with fail
  refine (PX.out _ (Upd.refl _ _).drew).mono ?_
  rintro e w3 ⟨rfl, u3⟩
  have U3 := Lib.hid ((Upd.refl [] w2).drew.trans u3)
  clear u3
  go_wp2_with fail
  refine plan_same ⟨⟨_, U3.out⟩, rfl⟩ ?_
  refine plan_next ?_
  simp only [opsAt, List.map_cons, List.map_nil, List.getElem?_toArray, List.getElem?_cons_zero, List.getElem?_cons_succ, Option.getD_some]
  repeat (go_big_quiet_step (fail))
  refine wpQuiet_nil ?_
  refine plan_one rfl ?_
  go_wp2_with fail
  refine (one_steps (O2.out.upd0 U3.out) OK.out).mono ?_
  rintro e z1 ⟨rfl, hz1⟩
  subst hz1
  go_wp2_with fail
  refine plan_same ⟨⟨_, U3.out⟩, rfl⟩ ?_
  refine plan_next ?_
  simp only [opsAt, List.map_cons, List.map_nil, List.getElem?_toArray, List.getElem?_cons_zero, List.getElem?_cons_succ, Option.getD_some]
  repeat (first
    | go_big_quiet_step (fail)
    | (refine Q_load 60 (.tmp 61) rfl (by kernel_rfl) _ _ rfl V2.arr (by rintro _ ⟨y, rfl⟩; exact RN.out _ y.2) Tryz.underlying60 rfl 39 info_state s2 ?_; go_simp))
  refine wpQuiet_nil ?_
  refine plan_one rfl ?_
  go_wp2_with fail
  refine (one_state (O2.out.upd0 U3.out) OK.out).mono ?_
  rintro e w4 ⟨A4, c4, rfl, ok4, u4⟩
  have U4 := Lib.hid (U3.out.trans u4)
  have ST : Hid (Calls Tryz.prog 35 #[.agg (StV.arr ⟨s.pc, s.regs, s.csrs, A4, s.mem, c4⟩), .agg V2.arr] w4 fun e z' => e = .returned (.bool true) ∧ Upd [] w4 z') := Lib.hid (by
    refine (RefStates_calls _ V2 w4 ok4 (OK2.out _ U4.out)).mono ?_
    rintro e z' ⟨rfl, hb⟩
    refine ⟨?_, Upd.of_below hb⟩
    rw [HV2.out]
    simp [stEq])
  clear u4 ok4
  go_wp2_with fail
  refine plan_same ⟨⟨_, U4.out⟩, rfl⟩ ?_
  refine plan_next ?_
  simp only [opsAt, List.map_cons, List.map_nil, List.getElem?_toArray, List.getElem?_cons_zero, List.getElem?_cons_succ, Option.getD_some]
  repeat (go_big_quiet_step (fail))
  refine wpQuiet_nil ?_
  refine plan_one rfl ?_
  go_wp2_with fail
  refine ST.out.mono ?_
  rintro e w5 ⟨rfl, u5⟩
  have U5 := Lib.hid (U4.out.trans u5)
  clear u5
  go_wp2_with fail
  refine plan_same ⟨⟨_, U5.out⟩, rfl⟩ ?_
  refine plan_last ?_
  simp only [opsAt, List.map_cons, List.map_nil, List.getElem?_toArray, List.getElem?_cons_zero, List.getElem?_cons_succ, Option.getD_some]
  repeat (go_big_quiet_step (fail))
  refine wpQuiet_nil ?_
  unfold planEnd
  go_wp2_with fail
  go_ret
  exact ⟨rfl, U2.out.trans U5.out⟩
end Go.Proofs.YtggjmdgonjhioaaGreat

namespace Go.Proofs.YtggjmdgonjhioaaGreat
open Go.RowKit Go.Dio
set_option linter.unusedSimpArgs false
set_option linter.unusedVariables false

theorem bo_stepB2 {zz : World} {m1 g1 m2 g2 B : Nat} {sa sb : MSt} {w : World} (k : Blk zz m1 g1 m2 g2 B) (h : Bo zz m1 g1 m2 g2 B sa sb w) (iv : MInv sb) (ht : sb.trace.length ≤ 4000) (hsn : sb.steps ≤ 1000000) (b : Nat) (cs : Array Value) (hb : w.heap[b]? = some (.cells cs 38 (0, 0))) :
    Calls Tryz.prog 13 #[.pointer (some ⟨m2, 0, none⟩)] w fun e z' => e = .returned (.tuple #[.agg (retL (retP sb)).toArray, .bool (!sb.halted)]) ∧ Bo zz m1 g1 m2 g2 B sa (stepP sb) z' ∧ z'.heap[b]? = some (.cells cs 38 (0, 0)) := by
  obtain ⟨ta, tb, ma, mb, hs⟩ := h.ex
  refine (rstep_calls m2 g2 B tb sb w mb iv h.le ht hsn).mono ?_
  rintro e z' ⟨rfl, r⟩
  refine ⟨rfl, h.stB k ma mb hs r, ?_⟩
  obtain ⟨tv', m', u, _⟩ := r
  refine u.keep hb (fun hx => ?_)
  simp only [List.mem_cons, Option.mem_toList] at hx
  rcases hx with hx | hx | hx
  · subst hx; rw [mb.cell] at hb; injection hb with hb; injection hb with _ h2 _; exact absurd h2 (by decide)
  · subst hx; rw [mb.mem] at hb; injection hb with hb; injection hb with _ h2 _; exact absurd h2 (by decide)
  · rcases mb.own.2 with ⟨h1, _⟩ | ⟨g, cap, cur, h1, _, h3, _⟩
    · rw [h1] at hx; cases hx
    · rw [h1] at hx
      have : g = b := by simpa [Value.ownBlock] using hx
      subst this
      rw [h3] at hb; injection hb with hb; injection hb with _ h2 _; exact absurd h2 (by decide)
set_option maxRecDepth 20000 in
set_option maxHeartbeats 4000000 in
theorem play_long (A : Option Addr) (m c n : Nat) (zz : World) (h : 1024 < m) :
    Calls Tryz.prog 5 #[.slice A m c, .int .i64 (n : Int)] zz fun e z' => e = .returned (.bool true) ∧ Upd [] zz z' := by
  have L1 := Lib.hid (fun z => mnew_long A m c z h)
  have L2 := Lib.hid (fun z => rnew_long A m c z h)
  clear h
  go_enter Tryz.func5, Tryz.ntmps5
  go_wp2_with (fail)
  refine (L1.out _).mono ?_
  rintro e z1 ⟨rfl, hz1⟩
  subst hz1
  go_wp2_with (fail)
  refine (L2.out _).mono ?_
  rintro e z2 ⟨rfl, hz2⟩
  subst hz2
  go_wp2_with (fail)
  go_loopw [8] (fun v8 wl => v8 = .int .i64 0 ∧ wl = z2) (fun v8 _ => 0)
  case atStart => exact ⟨rfl, rfl⟩
  case round =>
    obtain ⟨rfl, rfl⟩ := hrel
    rcases Nat.eq_zero_or_pos n with h0 | h0
    · subst h0
      go_wp2_with (fail)
      go_ret
      exact ⟨rfl, Upd.refl _ _⟩
    · have d0 : decide ((0 : Int) < (n : Int)) = true := decide_eq_true (by omega)
      go_wp2_with (fail)
      go_ret
      exact ⟨rfl, Upd.refl _ _⟩
set_option maxRecDepth 20000 in
set_option maxHeartbeats 8000000 in
theorem play_calls (A : Option Addr) (ns : List Nat) (m c n : Nat) (zz : World) (hm : m = ns.length) (hA : NumsAt zz .u32 A ns) (hs : ∀ x ∈ ns, x < 2 ^ 32) (hl : m ≤ 1024) (hn : n ≤ 400) :
    Calls Tryz.prog 5 #[.slice A m c, .int .i64 (n : Int)] zz fun e z' => e = .returned (.bool true) ∧ Upd [] zz z' := by
  have HA := Lib.hid hA
  have HM := Lib.hid hm
  have IV0 := Lib.hid (newS_inv (ns := ns) (by omega) hs)
  clear hA hm hs
  go_enter Tryz.func5, Tryz.ntmps5
  go_wp2_with (fail)
  refine (pr_new ns (Upd.refl [] zz) A m c HM.out HA.out hl).mono ?_
  rintro e w2 ⟨rfl, n2, s2, M1, u2⟩
  have N2 := Lib.hid n2
  have U2 := Lib.hid u2
  have M1' := Lib.hid M1
  have S2' := Lib.hid s2
  clear n2 s2 M1 u2
  have R2 : Hid (Calls Tryz.prog 11 #[.slice A m c] w2 fun e z' => e = .returned (.pointer (some ⟨w2.heap.size, 0, none⟩)) ∧ RfAt w2.heap.size (w2.heap.size + 1) (w2.heap.size + 2) (.slice none 0 0) (newS ns) z' ∧ Upd [] w2 z') := Lib.hid (by rw [HM.out]; exact rnew_calls A ns c w2 N2.out (by rw [← HM.out]; exact hl))
  go_wp2_with (fail)
  refine R2.out.mono ?_
  rintro e w3 ⟨rfl, M2, u3⟩
  obtain ⟨kk, pp⟩ := bo_two ns (Upd.refl [] zz) M1'.out S2'.out U2.out M2 (lt_of_block M2.mem) u3
  have K := Lib.hid kk
  have P := Lib.hid pp
  clear kk pp M2 u3 N2 U2 M1' S2' R2 HA
  generalize zz.heap.size + 1 = m1 at *
  generalize zz.heap.size = g1 at *
  generalize w2.heap.size + 1 = g2 at *
  generalize w2.heap.size = m2 at *
  generalize w3.heap.size = b3 at *
  have P0 : Hid (∃ s, Bo zz m1 g1 m2 g2 b3 s s w3 ∧ MInv s ∧ s.trace.length ≤ 0 ∧ s.steps ≤ 0) := Lib.hid ⟨_, P.out, IV0.out, Nat.le_refl _, Nat.le_refl _⟩
  clear P IV0 HM
  go_wp2_with (fail)
  go_loopw [8] (fun v8 wl => ∃ i : Nat, v8 = .int .i64 (i : Int) ∧ i ≤ n ∧ Hid (∃ s, Bo zz m1 g1 m2 g2 b3 s s wl ∧ MInv s ∧ s.trace.length ≤ i ∧ s.steps ≤ i)) (fun v8 _ => n - (intOf v8).toNat)
  case atStart => exact ⟨0, rfl, by omega, P0⟩
  case round =>
    obtain ⟨i, rfl, hi, HX⟩ := hrel
    obtain ⟨s, ow, iv, htr, hst⟩ := HX.out
    have OW := Lib.hid ow
    have IV := Lib.hid iv
    clear HX ow iv
    rcases Nat.lt_or_ge i n with hlt | hge
    · have dl : decide ((i : Int) < (n : Int)) = true := decide_eq_true (by omega)
      have gr := step_grow IV.out
      have iv2 := step_inv IV.out
      have cA := bo_stepA K.out OW.out IV.out (by omega) (by omega)
      obtain ⟨AR, hAR⟩ : ∃ AR, AR = (retL (retP s)).toArray := ⟨_, rfl⟩
      have a1 : AR.size = 7 := by rw [hAR]; rfl
      have a2 : (AR.all fun x => x.oneCell') = true := by rw [hAR]; exact retL_one _
      have hq : ∀ w, (Op.equalIn 10000 38 (.agg AR) (.agg AR)).run Tryz.prog w = .ok true w := fun w => by
        have h := ret_eq (retP s) (retP s) w
        rw [hAR]
        rw [decide_eq_true rfl] at h
        exact h
      rw [← hAR] at cA
      have CA := Lib.hid cA
      have HAR := Lib.hid hAR
      obtain ⟨S2, hS2⟩ : ∃ S2, S2 = stepP s := ⟨_, rfl⟩
      obtain ⟨H, hH⟩ : ∃ H, H = (!s.halted) := ⟨_, rfl⟩
      rw [← hS2, ← hH] at CA
      rw [← hS2] at gr iv2
      have IV2 := Lib.hid iv2
      have GR := Lib.hid gr
      have HS2 := Lib.hid hS2.symm
      have HH := Lib.hid hH.symm
      clear cA hAR hS2 hH gr iv2
      go_wp2_with (fail)
      refine CA.out.mono ?_
      rintro e w5 ⟨rfl, b5⟩
      have B5 := Lib.hid (b5.upd0 ((Upd.refl [] w5).alloc (.cells AR 38)))
      have T5 := Lib.hid (hl1 w5 (.cells AR 38))
      clear b5 CA OW
      go_wp2_with (first
        | go_skip
        | ((with_reducible refine at_st 9 ?_); refine L_store_new 38 (.tmp 9) (.tmp 52) rfl (by kernel_rfl) _ AR rfl rfl 7 info_ret rfl a1 a2 ?_))
      generalize hW : World.alloc w5 _ = W
      have hW2 : w5.alloc (.cells AR 38) = W := hW
      rw [hW2] at T5 B5
      clear hW hW2
      generalize w5.heap.size = ta at *
      have CB : Hid (Calls Tryz.prog 13 #[.pointer (some ⟨m2, 0, none⟩)] W fun e z' => e = .returned (.tuple #[.agg AR, .bool H]) ∧ Bo zz m1 g1 m2 g2 b3 S2 S2 z' ∧ z'.heap[ta]? = some (.cells AR 38 (0, 0))) := Lib.hid (by
        have h := bo_stepB2 K.out B5.out IV.out (by omega) (by omega) ta AR T5.out
        rw [← HAR.out, HH.out, HS2.out] at h
        exact h)
      refine CB.out.mono ?_
      rintro e w7 ⟨rfl, b7, t7⟩
      have B8 := Lib.hid (b7.upd0 ((Upd.refl [] w7).alloc (.cells AR 38)))
      have T8 := Lib.hid (((Upd.refl [] w7).alloc (.cells AR 38)).keep t7 (by simp))
      have Q8 := Lib.hid (hl1 w7 (.cells AR 38))
      clear b7 t7 CB B5 T5
      go_upto_region 10 with (first
        | go_skip
        | ((with_reducible refine at_st 11 ?_); refine L_store_new 38 (.tmp 11) (.tmp 57) rfl (by kernel_rfl) _ AR rfl rfl 7 info_ret rfl a1 a2 ?_))
      generalize hX : World.alloc w7 _ = X
      have hX2 : w7.alloc (.cells AR 38) = X := hX
      rw [hX2] at T8 B8 Q8
      clear hX hX2
      generalize w7.heap.size = tb at *
      have i3 : (i : Int).tmod 16 = ((i % 16 : Nat) : Int) := by rw [Int.tmod_eq_emod_of_nonneg (by omega)]; omega
      by_cases h16 : i % 16 = 0
      · have e16 : (((i % 16 : Nat) : Int) == 0) = true := (cast_eq_b h16).1
        have SM2 := Lib.hid (lsame_calls K.out B8.out IV2.out (by have := GR.out.1; omega))
        obtain ⟨r, hr⟩ : ∃ r, r = i % 16 := ⟨_, rfl⟩
        rw [← hr] at e16 i3
        clear h16 hr
        go_wp2_with (first
          | go_skip
          | ((with_reducible refine at_op 59 ?_); refine L_load 38 (.tmp 9) rfl (by kernel_rfl) _ _ rfl AR (row_allR T8.out) Tryz.underlying38 rfl 7 info_ret a1 ?_)
          | ((with_reducible refine at_op 60 ?_); refine L_load 38 (.tmp 11) rfl (by kernel_rfl) _ _ rfl AR (row_allR Q8.out) Tryz.underlying38 rfl 7 info_ret a1 ?_))
        refine SM2.out.mono ?_
        rintro e w9 ⟨rfl, u9⟩
        go_wp2_with (fail)
        have P9 : Hid (∃ s, Bo zz m1 g1 m2 g2 b3 s s _ ∧ MInv s ∧ s.trace.length ≤ i + 1 ∧ s.steps ≤ i + 1) := Lib.hid ⟨S2, B8.out.upd0 u9, IV2.out, by have := GR.out.1; omega, by have := GR.out.2.1; omega⟩
        go_roundw
        case measure => simp [intOf]; omega
        case rel => exact ⟨i + 1, by go_num, by omega, P9⟩
      · have e16 : (((i % 16 : Nat) : Int) == 0) = false := (cast_ne_b h16).1
        obtain ⟨r, hr⟩ : ∃ r, r = i % 16 := ⟨_, rfl⟩
        rw [← hr] at e16 i3
        clear h16 hr
        go_wp2_with (first
          | go_skip
          | ((with_reducible refine at_op 59 ?_); refine L_load 38 (.tmp 9) rfl (by kernel_rfl) _ _ rfl AR (row_allR T8.out) Tryz.underlying38 rfl 7 info_ret a1 ?_)
          | ((with_reducible refine at_op 60 ?_); refine L_load 38 (.tmp 11) rfl (by kernel_rfl) _ _ rfl AR (row_allR Q8.out) Tryz.underlying38 rfl 7 info_ret a1 ?_))
        have P9 : Hid (∃ s, Bo zz m1 g1 m2 g2 b3 s s _ ∧ MInv s ∧ s.trace.length ≤ i + 1 ∧ s.steps ≤ i + 1) := Lib.hid ⟨S2, B8.out.upd0 (Upd.refl _ _), IV2.out, by have := GR.out.1; omega, by have := GR.out.2.1; omega⟩
        go_roundw
        case measure => simp [intOf]; omega
        case rel => exact ⟨i + 1, by go_num, by omega, P9⟩
    · have hid : i = n := by omega
      subst hid
      have dl : decide ((i : Int) < (i : Int)) = false := decide_eq_false (by omega)
      have SM2 := Lib.hid (lsame_calls K.out OW.out IV.out (by omega))
      go_wp2_with (fail)
      refine SM2.out.mono ?_
      rintro e w9 ⟨rfl, u9⟩
      have U9 := Lib.hid (OW.out.upd.trans u9)
      clear u9
      go_wp2_with (fail)
      go_ret
      exact ⟨rfl, U9.out⟩
end Go.Proofs.YtggjmdgonjhioaaGreat
