/- Law 11, 'ModelTraps': a step that traps. -/
import Derived.Test.YtggjmdgonjhioaaGb
import Derived.Test.YtggjmdgonjhioaaGl
import Derived.Test.YtggjmdgonjhioaaInts
import Derived.Test.YtggjmdgonjhioaaFr
import Derived.ChangeSame
import Derived.JoinedOf
import Derived.JoinedAt
namespace Go.Proofs.Ytggjmdgonjhioaa
open Go.RowKit Go.Dio
set_option linter.unusedSimpArgs false
set_option linter.unusedVariables false

theorem stT_one (p : StV) : (p.arr.all fun x => x.oneCell') = true := by simp [StV.arr, Value.oneCell']
theorem stT_upd {s : StV} {w w' : World} (h : s.OK w) (hu : Upd [] w w') : s.OK w' := ⟨h.regs, h.csrs, h.mem.of_upd hu, h.cap, h.big⟩
theorem arr_csr (p : StV) (hr : p.regs.length = 32) (hc : p.csrs.length = 5) (j : Nat) (hj : j < 5) : p.arr[33 + j]? = some (.int .u32 ((nth p.csrs j : Nat) : Int)) := by
  rw [nth_eq p.csrs j (by omega)]
  rw [StV.arr, List.getElem?_toArray, show 33 + j = (32 + j) + 1 by omega, List.getElem?_cons_succ, List.getElem?_append_right (by simp [hr]), List.getElem?_append_left (by simp [hr, hc]; omega)]
  simp [hr, hc, hj]
/-- A step leaves blocks of other kinds. -/
theorem one_step2 {zz : World} {mb gb B : Nat} {s : MSt} {w : World} (h : One zz mb gb B s w) (iv : MInv s) (ht : s.trace.length ≤ 4000) (hsn : s.steps ≤ 1000000) (b : Nat) (cs : Array Value) (hb : w.heap[b]? = some (.cells cs 39 (0, 0))) :
    Calls Try.prog 9 #[.pointer (some ⟨mb, 0, none⟩)] w fun e z' => e = .returned (.tuple #[.agg (retL (retP s)).toArray, .bool (!s.halted)]) ∧ One zz mb gb B (stepP s) z' ∧ z'.heap[b]? = some (.cells cs 39 (0, 0)) := by
  obtain ⟨tv, m⟩ := h.ex
  refine (step_calls mb gb B tv s w m iv h.le ht hsn).mono ?_
  rintro e z' ⟨rfl, r⟩
  refine ⟨rfl, h.stR m r, ?_⟩
  obtain ⟨tv', m', u, _⟩ := r
  refine u.keep hb (fun hx => ?_)
  simp only [List.mem_cons, Option.mem_toList] at hx
  rcases hx with hx | hx | hx
  · subst hx; rw [m.cell] at hb; injection hb with hb; injection hb with _ h2 _; exact absurd h2 (by decide)
  · subst hx; rw [m.mem] at hb; injection hb with hb; injection hb with _ h2 _; exact absurd h2 (by decide)
  · rcases m.own.2 with ⟨h1, _⟩ | ⟨g, cap, cur, h1, _, h3, _⟩
    · rw [h1] at hx; cases hx
    · rw [h1] at hx
      have : g = b := by simpa [Value.ownBlock] using hx
      subst this
      rw [h3] at hb; injection hb with hb; injection hb with _ h2 _; exact absurd h2 (by decide)

set_option maxRecDepth 20000 in
set_option maxHeartbeats 16000000 in
theorem traps_walk (A A2 : Option Addr) (L L2 : List Int) (c c2 : Nat) (zz : World) (hA : IntsAt zz A L) (hlt : ∀ b o s, A = some ⟨b, o, s⟩ → b < zz.heap.size) (hsm : L.length ≤ 9223372036854775807)
    (hwf : ∀ x ∈ L, -9223372036854775808 ≤ x ∧ x ≤ 9223372036854775807) (hA2 : IntsAt zz A2 L2) (hlt2 : ∀ b o s, A2 = some ⟨b, o, s⟩ → b < zz.heap.size) (hsm2 : L2.length ≤ 9223372036854775807)
    (hwf2 : ∀ x ∈ L2, -9223372036854775808 ≤ x ∧ x ≤ 9223372036854775807) :
    Calls Try.prog 4 #[.slice A L.length c, .slice A2 L2.length c2] zz fun e z' => e = .returned (.bool true) ∧ Upd [] zz z' := by
  have R := Lib.hid (Raw_calls A2 L2 c2 30 zz hA2 hlt2 hsm2 hwf2 (by decide))
  have I := Lib.hid (fun w1 (u : Upd [] zz w1) => Image_calls A L c w1 (hA.of_upd u) (fun b o s h => Nat.lt_of_lt_of_le (hlt b o s h) u.size) hsm hwf)
  generalize L.length = N at I ⊢
  generalize L2.length = N2 at R ⊢
  clear hA hlt hsm hwf hA2 hlt2 hsm2 hwf2
  go_enter Try.func4, Try.ntmps4
  go_wp2_with (fail)
  refine R.out.mono ?_
  rintro e w1 ⟨B1, cap1, l1, rfl, O1, hl1', hlen1, u1⟩
  have O1' := Lib.hid O1
  have U1 := Lib.hid u1
  have HL1 := Lib.hid hl1'
  clear R O1 u1 hl1'
  go_wp2_with (fail)
  refine (I.out _ U1.out).mono ?_
  rintro e w2 ⟨B2, cap2, l2, rfl, O2, hl2', hlen2, u2⟩
  have O12 := Lib.hid (O1'.out.upd u2 (fun g hg => by simp at hg))
  have N2' := Lib.hid O2.nat
  have U2 := Lib.hid (U1.out.trans u2)
  have HL2 := Lib.hid hl2'
  clear I O2 u2 hl2' O1' U1
  have hl5 : l1.length + l2.length ≤ 5000 := by omega
  go_wp2_with (first | go_skip | ((with_reducible refine at_op 18 ?_); refine L_app (.tmp 15) (.tmp 17) rfl (by kernel_rfl) zz.heap.size _ l1 rfl O12.out _ _ _ l2 rfl rfl N2'.out hl5 U2.out.size ?_))
  intro v3 w3 O3 u3
  have U3 := Lib.hid (U2.out.then u3 (fun x hx hlt => by
    have h2 := World.ownsRow.lt O12.out x (by simpa using hx)
    omega))
  obtain ⟨A3, c3, rfl, _, _, N3, _⟩ := O3.words
  have N3' := Lib.hid N3
  obtain ⟨P, hP⟩ : ∃ P, P = l1 ++ l2 := ⟨_, rfl⟩
  have PL : P.length = l1.length + l2.length := by rw [hP, List.length_append]
  have PT : Hid (∀ x ∈ P, x < 2 ^ 32) := Lib.hid (fun x hx => by
    rw [hP] at hx
    rcases List.mem_append.1 hx with h | h
    · exact HL1.out x h
    · exact HL2.out x h)
  rw [← hP] at N3' ⊢
  obtain ⟨n, hn⟩ : ∃ n, n = P.length := ⟨_, rfl⟩
  rw [← hn] at PL ⊢
  have HN := Lib.hid hn
  have hn8 : n ≤ 1024 := by omega
  clear hn hP O3 u3 N3 O12 N2' U2 HL1 HL2 PL hl5
  go_wp2_with (fail)
  refine (one_new U3.out A3 P n c3 HN.out N3'.out hn8).mono ?_
  rintro e w4 ⟨mb, gb, B, rfl, o4, u4⟩
  have IV := newS_inv (ns := P) (by rw [← HN.out]; exact hn8) PT.out
  have O4 : Hid (∃ s, One zz mb gb B s w4 ∧ MInv s ∧ s.trace.length ≤ 0 ∧ s.steps ≤ 0) := Lib.hid ⟨_, o4, IV, Nat.le_refl _, Nat.le_refl _⟩
  clear o4 u4 N3' U3 PT HN IV
  go_wp2_with (fail)
  go_loopw [7] (fun v7 wl => ∃ i : Nat, v7 = .int .i64 (i : Int) ∧ i ≤ 120 ∧ Hid (∃ s, One zz mb gb B s wl ∧ MInv s ∧ s.trace.length ≤ i ∧ s.steps ≤ i)) (fun v7 _ => 120 - (intOf v7).toNat)
  case atStart => exact ⟨0, rfl, by omega, O4⟩
  case round =>
    obtain ⟨i, rfl, hi, HX⟩ := hrel
    obtain ⟨s, ow, iv, htr, hst⟩ := HX.out
    have OW := Lib.hid ow
    have IV := Lib.hid iv
    clear HX ow iv
    rcases Nat.lt_or_ge i 120 with hlt | hge
    · have dl : decide ((i : Int) < 120) = true := decide_eq_true (by omega)
      go_wp2_with (fail)
      refine (one_state OW.out IV.out.ok).mono ?_
      rintro e w5 ⟨A5, c5, rfl, ok5, u5⟩
      have S5 := Lib.hid ok5
      obtain ⟨V1, hV1⟩ : ∃ V : StV, V = ⟨s.pc, s.regs, s.csrs, A5, s.mem, c5⟩ := ⟨_, rfl⟩
      rw [← hV1] at S5 ⊢
      have HV1 := Lib.hid hV1
      obtain ⟨A1, hA1⟩ : ∃ A1, A1 = V1.arr := ⟨_, rfl⟩
      have p1 : A1.size = 39 := by rw [hA1]; exact StV.arr_size S5.out.regs S5.out.csrs
      have p2 : (A1.all fun x => x.oneCell') = true := by rw [hA1]; exact stT_one V1
      have T5 := Lib.hid (hl1 w5 (.cells A1 39))
      have O5 := Lib.hid (OW.out.upd0 (u5.alloc (.cells A1 39)))
      rw [← hA1]
      have HA1 := Lib.hid hA1
      have RC1 := Lib.hid (And.intro S5.out.regs S5.out.csrs)
      clear hA1 hV1 S5 u5 ok5 OW
      go_wp2_with (first
        | go_skip
        | ((with_reducible refine at_st 8 ?_); refine L_store_new 39 (.tmp 8) (.tmp 38) rfl (by kernel_rfl) _ A1 rfl rfl 39 info_state rfl p1 p2 ?_))
      generalize hW : World.alloc w5 _ = W
      have hW2 : w5.alloc (.cells A1 39) = W := hW
      rw [hW2] at T5 O5
      clear hW hW2 p1 p2
      generalize w5.heap.size = ta at *
      refine (one_trace O5.out IV.out.ok (by omega)).mono ?_
      rintro e w6 ⟨A6, c6, rfl, _, u6, _⟩
      obtain ⟨N, hN⟩ : ∃ N, N = s.trace.length := ⟨_, rfl⟩
      rw [← hN]
      have HN := Lib.hid hN
      have T6 := Lib.hid (u6.keep T5.out (by simp))
      have O6 := Lib.hid (O5.out.upd0 u6)
      clear hN u6 T5 O5
      go_wp2_with (fail)
      have hcall := Lib.hid (one_step2 O6.out IV.out (by omega) (by omega) ta A1 T6.out)
      cases hh : s.halted
      · obtain ⟨v, rd, st, ad, dt, mk, RO⟩ := ret_ok IV.out hh
        have hc2 : Hid (Calls Try.prog 9 #[.pointer (some ⟨mb, 0, none⟩)] w6 fun e z' => e = .returned (.tuple #[.agg #[.int .u32 (s.pc : Int), .int .u32 (v : Int), .int .i64 (rd : Int), .bool st, .int .u32 (ad : Int), .int .u32 (dt : Int), .int .i64 mk], .bool true]) ∧ One zz mb gb B (stepP s) z' ∧ z'.heap[ta]? = some (.cells A1 39 (0, 0))) := Lib.hid (by
          have h := hcall.out
          rw [hh, RO.eq] at h
          exact h)
        have gr := step_grow IV.out
        have iv2 := step_inv IV.out
        have RS := Lib.hid RO.same
        have RT := Lib.hid RO.tell
        have RZ := Lib.hid RO.sz
        obtain ⟨S2, hS2⟩ : ∃ S2, S2 = stepP s := ⟨_, rfl⟩
        rw [← hS2] at hc2 gr iv2 RS RT
        have IV2 := Lib.hid iv2
        have GR := Lib.hid gr
        clear RO hS2 gr iv2 hcall hh O6 T6
        refine hc2.out.mono ?_
        rintro e w7 ⟨rfl, o7, t7⟩
        have R7 := Lib.hid (hl1 w7 (.cells #[.int .u32 (s.pc : Int), .int .u32 (v : Int), .int .i64 (rd : Int), .bool st, .int .u32 (ad : Int), .int .u32 (dt : Int), .int .i64 mk] 33))
        have O7 := Lib.hid (o7.upd0 ((Upd.refl [] w7).alloc (.cells #[.int .u32 (s.pc : Int), .int .u32 (v : Int), .int .i64 (rd : Int), .bool st, .int .u32 (ad : Int), .int .u32 (dt : Int), .int .i64 mk] 33)))
        have T7 := Lib.hid (((Upd.refl [] w7).alloc (.cells #[.int .u32 (s.pc : Int), .int .u32 (v : Int), .int .i64 (rd : Int), .bool st, .int .u32 (ad : Int), .int .u32 (dt : Int), .int .i64 mk] 33)).keep t7 (by simp))
        clear o7 t7 hc2
        go_wp2_with (fail)
        generalize hX7 : World.alloc w7 _ = X7
        have hX72 : w7.alloc (.cells #[.int .u32 (s.pc : Int), .int .u32 (v : Int), .int .i64 (rd : Int), .bool st, .int .u32 (ad : Int), .int .u32 (dt : Int), .int .i64 mk] 33) = X7 := hX7
        rw [hX72] at R7 O7 T7
        clear hX7 hX72
        generalize w7.heap.size = tr at *
        refine (one_state O7.out IV2.out.ok).mono ?_
        rintro e w8 ⟨A8, c8, rfl, ok8, u8⟩
        have S8 := Lib.hid ok8
        obtain ⟨V2, hV2⟩ : ∃ V : StV, V = ⟨S2.pc, S2.regs, S2.csrs, A8, S2.mem, c8⟩ := ⟨_, rfl⟩
        rw [← hV2] at S8 ⊢
        have HV2 := Lib.hid hV2
        obtain ⟨A2b, hA2b⟩ : ∃ A2b, A2b = V2.arr := ⟨_, rfl⟩
        have p1 : A2b.size = 39 := by rw [hA2b]; exact StV.arr_size S8.out.regs S8.out.csrs
        have p2 : (A2b.all fun x => x.oneCell') = true := by rw [hA2b]; exact stT_one V2
        have Q9 := Lib.hid (hl1 w8 (.cells A2b 39))
        have U9 := Lib.hid (u8.alloc (.cells A2b 39))
        rw [← hA2b]
        have HA2 := Lib.hid hA2b
        have RC2 := Lib.hid (And.intro S8.out.regs S8.out.csrs)
        clear hA2b hV2 S8 u8 ok8
        go_upto_region 12 with (first
          | go_skip
          | ((with_reducible refine at_st 12 ?_); refine L_store_new 39 (.tmp 12) (.tmp 50) rfl (by kernel_rfl) _ A2b rfl rfl 39 info_state rfl p1 p2 ?_))
        generalize hW : World.alloc w8 _ = W
        have hW2 : w8.alloc (.cells A2b 39) = W := hW
        rw [hW2] at Q9 U9
        have TA := Lib.hid (U9.out.keep T7.out (by simp))
        have TR := Lib.hid (U9.out.keep R7.out (by simp))
        have O9 := Lib.hid (O7.out.upd0 U9.out)
        clear hW hW2 p1 p2 T7 R7 O7 U9
        generalize w8.heap.size = tb at *
        have ca : ∀ j, j < 5 → W.cell? ⟨ta, 33 + j, none⟩ = some (.int .u32 ((nth s.csrs j : Nat) : Int)) := fun j hj => by rw [cells_of TA.out, HA1.out, arr_csr V1 RC1.out.1 RC1.out.2 j hj, HV1.out]
        have cb : ∀ j, j < 5 → W.cell? ⟨tb, 33 + j, none⟩ = some (.int .u32 ((nth S2.csrs j : Nat) : Int)) := fun j hj => by rw [cells_of Q9.out, HA2.out, arr_csr V2 RC2.out.1 RC2.out.2 j hj, HV2.out]
        have a0 : W.cell? ⟨ta, 0, none⟩ = some (.int .u32 (s.pc : Int)) := by rw [cells_of TA.out, HA1.out, StV.arr_pc, HV1.out]
        have b0 : W.cell? ⟨tb, 0, none⟩ = some (.int .u32 (S2.pc : Int)) := by rw [cells_of Q9.out, HA2.out, StV.arr_pc, HV2.out]
        have a33 := ca 0 (by decide)
        have a35 := ca 2 (by decide)
        have a36 := ca 3 (by decide)
        have a37 := ca 4 (by decide)
        have b35 := cb 2 (by decide)
        have b36 := cb 3 (by decide)
        have b37 := cb 4 (by decide)
        simp only [Nat.reduceAdd] at a33 a35 a36 a37 b35 b36 b37
        clear ca cb
        have r0 : W.cell? ⟨tr, 0, none⟩ = some (.int .u32 (s.pc : Int)) := by rw [cells_of TR.out]; rfl
        have r2 : W.cell? ⟨tr, 2, none⟩ = some (.int .i64 (rd : Int)) := by rw [cells_of TR.out]; rfl
        have r3 : W.cell? ⟨tr, 3, none⟩ = some (.bool st) := by rw [cells_of TR.out]; rfl
        have RR : Hid (∀ w', Upd [] W w' → Hid (∃ s, One zz mb gb B s w' ∧ MInv s ∧ s.trace.length ≤ i + 1 ∧ s.steps ≤ i + 1)) := Lib.hid (fun w' u => Lib.hid ⟨S2, O9.out.upd0 u, IV2.out, by have := GR.out.1; omega, by have := GR.out.2.1; omega⟩)
        have TRC : Hid (st = false → ∀ w', Upd [] W w' → Calls Try.prog 16 #[.pointer (some ⟨mb, 0, none⟩)] w' fun e z' => ∃ A cap, e = .returned (.slice A N cap) ∧ Upd [] w' z') := Lib.hid (fun hs w' u => by
          have h := one_trace (O9.out.upd0 u) IV2.out.ok (by have := GR.out.1; omega)
          rw [RT.out hs, ← HN.out] at h
          refine h.mono ?_
          rintro e z' ⟨A, cap, he, _, hu, _⟩
          exact ⟨A, cap, he, hu⟩)
        have L1 : Hid (W.rangeAt ta 1 (nums .u32 s.regs).toList) := Lib.hid (by
          have h := StV.range_regs RC1.out.1 (show W.heap[ta]? = some (.cells V1.arr 39 (0, 0)) by rw [← HA1.out]; exact TA.out)
          rw [HV1.out] at h; exact h)
        have L2 : Hid (W.rangeAt tb 1 (nums .u32 S2.regs).toList) := Lib.hid (by
          have h := StV.range_regs RC2.out.1 (show W.heap[tb]? = some (.cells V2.arr 39 (0, 0)) by rw [← HA2.out]; exact Q9.out)
          rw [HV2.out] at h; exact h)
        have n1 : (nums .u32 s.regs).size = 32 := by rw [nums_size]; exact IV.out.ok.regs
        have n2 : (nums .u32 S2.regs).size = 32 := by rw [nums_size]; exact IV2.out.ok.regs
        have hq : ∀ w, (Op.equalIn 10000 36 (.agg (nums .u32 S2.regs)) (.agg (nums .u32 s.regs))).run Try.prog w = .ok (decide (S2.regs = s.regs)) w := fun w =>
          run_equalIn_nums w 9998 _ _ 32 .u32 Try.underlying36 Try.underlying31 (fun _ => by kernel_rfl) _ _ IV2.out.ok.regs IV.out.ok.regs
        have RSD : Hid (rd = 0 → decide (S2.regs = s.regs) = true) := Lib.hid (fun h => decide_eq_true (RS.out h))
        clear RS RT GR Q9 TA TR HA1 HA2 HV1 HV2 RC1 RC2 HN
        generalize s.pc = pa at *
        generalize S2.pc = pb at *
        generalize nth s.csrs 0 = x0 at *
        generalize nth s.csrs 2 = x2 at *
        generalize nth s.csrs 3 = x3 at *
        generalize nth s.csrs 4 = x4 at *
        generalize nth S2.csrs 2 = y2 at *
        generalize nth S2.csrs 3 = y3 at *
        generalize nth S2.csrs 4 = y4 at *
        cases st
        · replace TRC := Lib.hid (TRC.out rfl)
          by_cases e2 : y2 = x2
          · subst e2
            by_cases e3 : y3 = x3
            · subst e3
              by_cases e4 : y4 = x4
              · subst e4
                go_wp2_with (fail)
                refine (TRC.out _ (Upd.refl _ _)).mono ?_
                rintro e w6 ⟨A6, c6, rfl, u6⟩
                go_wp2_with (fail)
                go_roundw
                case measure => simp [intOf]; omega
                case rel => exact ⟨i + 1, by go_num, by omega, RR.out _ u6⟩
              · have g4 : ((y4 : Int) == (x4 : Int)) = false := by rw [beq_eq_false_iff_ne]; omega
                by_cases hr0 : rd = 0
                · subst hr0
                  by_cases h0 : pb = x0
                  · subst h0
                    by_cases h2 : y2 = pa
                    · subst h2
                      have yq := RSD.out rfl
                      go_wp2_with (first
                        | go_skip
                        | ((with_reducible refine at_op 116 ?_); refine L_load 36 (.tmp 115) rfl (by kernel_rfl) _ _ rfl _ L2.out Try.underlying36 rfl 32 info_regs n2 ?_)
                        | ((with_reducible refine at_op 118 ?_); refine L_load 36 (.tmp 117) rfl (by kernel_rfl) _ _ rfl _ L1.out Try.underlying36 rfl 32 info_regs n1 ?_))
                      refine (TRC.out _ (Upd.refl _ _)).mono ?_
                      rintro e w6 ⟨A6, c6, rfl, u6⟩
                      go_wp2_with (fail)
                      go_roundw
                      case measure => simp [intOf]; omega
                      case rel => exact ⟨i + 1, by go_num, by omega, RR.out _ u6⟩
                    · have f2 : ((y2 : Int) == (pa : Int)) = false := by rw [beq_eq_false_iff_ne]; omega
                      go_wp2_with (fail)
                      go_roundw
                      case measure => simp [intOf]; omega
                      case rel => exact ⟨i + 1, by go_num, by omega, RR.out _ (Upd.refl _ _)⟩
                  · have f0 : ((pb : Int) == (x0 : Int)) = false := by rw [beq_eq_false_iff_ne]; omega
                    go_wp2_with (fail)
                    go_roundw
                    case measure => simp [intOf]; omega
                    case rel => exact ⟨i + 1, by go_num, by omega, RR.out _ (Upd.refl _ _)⟩
                · have er : ((rd : Int) == 0) = false := by rw [beq_eq_false_iff_ne]; omega
                  have er2 : ((rd : Int) != 0) = true := by simp; exact hr0
                  go_wp2_with (fail)
                  refine (TRC.out _ (Upd.refl _ _)).mono ?_
                  rintro e w6 ⟨A6, c6, rfl, u6⟩
                  go_wp2_with (fail)
                  go_roundw
                  case measure => simp [intOf]; omega
                  case rel => exact ⟨i + 1, by go_num, by omega, RR.out _ u6⟩
            · have g3 : ((y3 : Int) == (x3 : Int)) = false := by rw [beq_eq_false_iff_ne]; omega
              by_cases hr0 : rd = 0
              · subst hr0
                by_cases h0 : pb = x0
                · subst h0
                  by_cases h2 : y2 = pa
                  · subst h2
                    have yq := RSD.out rfl
                    go_wp2_with (first
                      | go_skip
                      | ((with_reducible refine at_op 116 ?_); refine L_load 36 (.tmp 115) rfl (by kernel_rfl) _ _ rfl _ L2.out Try.underlying36 rfl 32 info_regs n2 ?_)
                      | ((with_reducible refine at_op 118 ?_); refine L_load 36 (.tmp 117) rfl (by kernel_rfl) _ _ rfl _ L1.out Try.underlying36 rfl 32 info_regs n1 ?_))
                    refine (TRC.out _ (Upd.refl _ _)).mono ?_
                    rintro e w6 ⟨A6, c6, rfl, u6⟩
                    go_wp2_with (fail)
                    go_roundw
                    case measure => simp [intOf]; omega
                    case rel => exact ⟨i + 1, by go_num, by omega, RR.out _ u6⟩
                  · have f2 : ((y2 : Int) == (pa : Int)) = false := by rw [beq_eq_false_iff_ne]; omega
                    go_wp2_with (fail)
                    go_roundw
                    case measure => simp [intOf]; omega
                    case rel => exact ⟨i + 1, by go_num, by omega, RR.out _ (Upd.refl _ _)⟩
                · have f0 : ((pb : Int) == (x0 : Int)) = false := by rw [beq_eq_false_iff_ne]; omega
                  go_wp2_with (fail)
                  go_roundw
                  case measure => simp [intOf]; omega
                  case rel => exact ⟨i + 1, by go_num, by omega, RR.out _ (Upd.refl _ _)⟩
              · have er : ((rd : Int) == 0) = false := by rw [beq_eq_false_iff_ne]; omega
                have er2 : ((rd : Int) != 0) = true := by simp; exact hr0
                go_wp2_with (fail)
                refine (TRC.out _ (Upd.refl _ _)).mono ?_
                rintro e w6 ⟨A6, c6, rfl, u6⟩
                go_wp2_with (fail)
                go_roundw
                case measure => simp [intOf]; omega
                case rel => exact ⟨i + 1, by go_num, by omega, RR.out _ u6⟩
          · have g2 : ((y2 : Int) == (x2 : Int)) = false := by rw [beq_eq_false_iff_ne]; omega
            by_cases hr0 : rd = 0
            · subst hr0
              by_cases h0 : pb = x0
              · subst h0
                by_cases h2 : y2 = pa
                · subst h2
                  have yq := RSD.out rfl
                  go_wp2_with (first
                    | go_skip
                    | ((with_reducible refine at_op 116 ?_); refine L_load 36 (.tmp 115) rfl (by kernel_rfl) _ _ rfl _ L2.out Try.underlying36 rfl 32 info_regs n2 ?_)
                    | ((with_reducible refine at_op 118 ?_); refine L_load 36 (.tmp 117) rfl (by kernel_rfl) _ _ rfl _ L1.out Try.underlying36 rfl 32 info_regs n1 ?_))
                  refine (TRC.out _ (Upd.refl _ _)).mono ?_
                  rintro e w6 ⟨A6, c6, rfl, u6⟩
                  go_wp2_with (fail)
                  go_roundw
                  case measure => simp [intOf]; omega
                  case rel => exact ⟨i + 1, by go_num, by omega, RR.out _ u6⟩
                · have f2 : ((y2 : Int) == (pa : Int)) = false := by rw [beq_eq_false_iff_ne]; omega
                  go_wp2_with (fail)
                  go_roundw
                  case measure => simp [intOf]; omega
                  case rel => exact ⟨i + 1, by go_num, by omega, RR.out _ (Upd.refl _ _)⟩
              · have f0 : ((pb : Int) == (x0 : Int)) = false := by rw [beq_eq_false_iff_ne]; omega
                go_wp2_with (fail)
                go_roundw
                case measure => simp [intOf]; omega
                case rel => exact ⟨i + 1, by go_num, by omega, RR.out _ (Upd.refl _ _)⟩
            · have er : ((rd : Int) == 0) = false := by rw [beq_eq_false_iff_ne]; omega
              have er2 : ((rd : Int) != 0) = true := by simp; exact hr0
              go_wp2_with (fail)
              refine (TRC.out _ (Upd.refl _ _)).mono ?_
              rintro e w6 ⟨A6, c6, rfl, u6⟩
              go_wp2_with (fail)
              go_roundw
              case measure => simp [intOf]; omega
              case rel => exact ⟨i + 1, by go_num, by omega, RR.out _ u6⟩
        · have hrd := RZ.out rfl
          subst hrd
          by_cases e2 : y2 = x2
          · subst e2
            by_cases e3 : y3 = x3
            · subst e3
              by_cases e4 : y4 = x4
              · subst e4
                go_wp2_with (fail)
                go_roundw
                case measure => simp [intOf]; omega
                case rel => exact ⟨i + 1, by go_num, by omega, RR.out _ (Upd.refl _ _)⟩
              · have g4 : ((y4 : Int) == (x4 : Int)) = false := by rw [beq_eq_false_iff_ne]; omega
                go_wp2_with (fail)
                go_roundw
                case measure => simp [intOf]; omega
                case rel => exact ⟨i + 1, by go_num, by omega, RR.out _ (Upd.refl _ _)⟩
            · have g3 : ((y3 : Int) == (x3 : Int)) = false := by rw [beq_eq_false_iff_ne]; omega
              go_wp2_with (fail)
              go_roundw
              case measure => simp [intOf]; omega
              case rel => exact ⟨i + 1, by go_num, by omega, RR.out _ (Upd.refl _ _)⟩
          · have g2 : ((y2 : Int) == (x2 : Int)) = false := by rw [beq_eq_false_iff_ne]; omega
            go_wp2_with (fail)
            go_roundw
            case measure => simp [intOf]; omega
            case rel => exact ⟨i + 1, by go_num, by omega, RR.out _ (Upd.refl _ _)⟩
      · clear hcall
        refine (one_stay O6.out IV.out.ok hh).mono ?_
        rintro e w7 ⟨rfl, u7⟩
        have U7 := Lib.hid (O6.out.upd.trans (u7.alloc (.cells #[.int .u32 0, .int .u32 0, .int .i64 0, .bool false, .int .u32 0, .int .u32 0, .int .i64 0] 33)))
        clear u7
        go_wp2_with (fail)
        refine (known_calls _).mono ?_
        rintro e w8 ⟨rfl, u8⟩
        have U8 := Lib.hid (U7.out.trans u8)
        clear u8 U7
        go_wp2_with (fail)
        go_ret
        exact ⟨rfl, U8.out⟩
    · obtain rfl : i = 120 := by omega
      go_wp2_with (fail)
      refine (known_calls _).mono ?_
      rintro e w8 ⟨rfl, u8⟩
      have U8 := Lib.hid (OW.out.upd.trans u8)
      clear u8
      go_wp2_with (fail)
      go_ret
      exact ⟨rfl, U8.out⟩
end Go.Proofs.Ytggjmdgonjhioaa

namespace Go.Proofs.Ytggjmdgonjhioaa.mtraps
open Go.ChangeShapes Go.WideShapes Go.ChangeAt Go.RowKit Go.Dio
set_option linter.unusedVariables false
set_option linter.unusedSimpArgs false

theorem shape_lt {w : World} {b : Nat} {r : TypeId × Nat} (h : w.shape? b = some r) : b < w.heap.size := by
  rcases Nat.lt_or_ge b w.heap.size with h0 | h0
  · exact h0
  · have e : w.heap[b]? = none := by rw [Array.getElem?_eq_none_iff]; exact h0
    simp [World.shape?, e] at h
theorem okWide_lt {P : Program} {w : World} {r : Reach} {base len cap : Nat} {t e : TypeId} {A : Option Addr} (ht : P.underlying t = some (.slice e)) (h : Value.okWide P w r base t (.slice A len cap)) : ∀ b o s, A = some ⟨b, o, s⟩ → b < w.heap.size := fun b o s hA => by
  subst hA
  simp only [Value.okWide, ht, Cell.okWide, Cell.ok] at h
  obtain ⟨_, _, _, _, row, cells, hs, _⟩ := h
  exact shape_lt hs
theorem wf_range {l : List Int} (h : ∀ x ∈ l, (Lit.int .i64 x).wf = true) : ∀ x ∈ l, -9223372036854775808 ≤ x ∧ x ≤ 9223372036854775807 := fun x hx => by
  simpa [Lit.wf, IntKind.min, IntKind.max, IntKind.signed, IntKind.bits] using h x hx
set_option maxRecDepth 20000 in
theorem contract (H : Type) (enc : TypeId × Value → H) (W : World) (base : Nat) (args : Array Value) (ds gs : List (DataW H)) (before : List MemPlace)
    (hval : ∀ (j : Nat) t v, Try.f4.params[j]? = some t → args[j]? = some v → Value.okWide Try.prog W .any base t v)
    (hW : DataW.Whole enc Try.prog Try.f4.params.toList Rows.modelTrapsSpec.vars false W args.toList ds gs before) :
    Calls Try.prog 4 args W fun e W' => ∃ v, e = .returned v ∧ Rows.modelTrapsSpec.post enc Try.prog Try.f4 false true false false W args v W' := by
  have hW' := hW
  obtain ⟨p, q, hA0, hV, rfl, hfz, hnd⟩ := hW
  have hA : DataW.TrodAll enc Try.prog W 0 (fun _ => true) true Try.f4.params.toList args.toList ds p := hA0
  rw [Try.params4] at hA hval
  obtain ⟨v0, vs0, d0, ds0, p0, q0, hargs, rfl, rfl, h0, r0⟩ := trodAll_cons hA
  obtain ⟨v1, vs1, d1, ds1, p1, q1, rfl, rfl, rfl, h1, r1⟩ := trodAll_cons r0
  obtain ⟨rfl, rfl, rfl⟩ := trodAll_nil r1
  obtain rfl : args = #[v0, v1] := by cases args; simp_all
  obtain ⟨rfl, rfl⟩ := trodVars_none hV
  obtain ⟨a0, len0, cap0, rfl⟩ := okWide_slice Try.underlying22 (hval 0 22 v0 rfl rfl)
  have lt0 := okWide_lt Try.underlying22 (hval 0 22 _ rfl rfl)
  obtain ⟨l0, n0, rfl, c0, m0, wf0, _⟩ := fr.open_ints' Try.underlying22 Try.underlying3 (by kernel_rfl) h0
  obtain ⟨a1, len1, cap1, rfl⟩ := okWide_slice Try.underlying22 (hval 1 22 v1 rfl rfl)
  have lt1 := okWide_lt Try.underlying22 (hval 1 22 _ rfl rfl)
  obtain ⟨l1, n1, rfl, c1, m1, wf1, _⟩ := fr.open_ints' Try.underlying22 Try.underlying3 (by kernel_rfl) h1
  refine (traps_walk a0 a1 l0 l1 cap0 cap1 W n0 lt0 (by omega) (wf_range wf0) n1 lt1 (by omega) (wf_range wf1)).mono fun e W' ⟨he, bel⟩ => ?_
  subst he
  exact ⟨_, rfl, fr.post_true fr.laidOut (by kernel_rfl) rfl hW' bel.below 4 rfl Try.underlying4 rfl rfl rfl⟩

set_option maxRecDepth 100000 in
theorem lifted (os : Os) (started : os.Started) (H : Type) (enc : TypeId × Value → H) :
    ReturnsInHanded {} Try.checked os 4 .any (Rows.modelTrapsSpec.pre6 enc Try.prog Try.f4 Rows.modelTrapsRow.domain false) (Rows.modelTrapsSpec.post enc Try.prog Try.f4 false true false false) := by
  refine returnsInHanded_of_change (C := Try.checked) fr.own started (by kernel_rfl) Try.func4
    (ChangeSpec.witness6 (enc := enc) (C := Try.checked) false ⟨#[], #[.slice none 0 0, .slice none 0 0], []⟩ 8 (by kernel_rfl) (by kernel_rfl) (by kernel_rfl) (by kernel_rfl)) ?_
  intro W base args ds gs before hval hW _ _
  exact contract H enc W base args ds gs before hval hW

theorem proved : Rows.ModelTrapsSaid :=
  OpenClaim.holds_of_wide 4 Try.f4 rfl rfl rfl rfl rfl rfl rfl ⟨rfl, rfl, rfl, rfl, rfl⟩ rfl rfl rfl rfl rfl (by kernel_rfl) Try.func4 (by kernel_rfl)
    (of_decide_eq_true (by kernel_rfl)) (by unfold Func.isWrapper; first | (rw [if_pos (by decide +kernel)]; kernel_rfl) | (rw [if_neg (by decide +kernel)]; exact ⟨rfl, rfl⟩))
    (fun os started H enc _ => lifted os started H enc)
#print axioms proved
end Go.Proofs.Ytggjmdgonjhioaa.mtraps
