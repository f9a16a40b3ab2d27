/- upset.Spaced and upset.At. -/
import Derived.Test.YtgdmmhedcklkaaaUpR
namespace Go.Proofs.Ytgdmmhedcklkaaa
open Go.RowKit Go.Dio
set_option linter.unusedSimpArgs false
set_option linter.unusedVariables false

theorem stop_here {p : Prop} (h : True → p) : p := h trivial
theorem getD_nth (l : List UpV) (i : Nat) (h : i < l.length) : l.getD i (0, 0) = l[i] := by simp [h]
set_option maxHeartbeats 1000000 in
theorem Spaced_calls (A : Option Addr) (l : List UpV) (c : Nat) (w : World) (h : UpsAt w A l) (hl : l.length ≤ 1048576) :
    Calls Try.prog 23 #[.slice A l.length c] w fun e w' => e = .returned (.bool (spaced l)) ∧ Upd [] w w' := by
  have HC := Lib.hid (Sort_calls A l c w h hl)
  clear h
  have hs := srt_len l
  generalize hr : spaced l = r
  have HR := Lib.hid hr
  clear hr
  generalize hL : l.length = L at hl HC hs ⊢
  have HR2 : Hid (spTo (srt l) L = r) := Lib.hid (by rw [← HR.out, ← hL]; rfl)
  clear HR hL
  generalize srt l = s at HC hs HR2
  have HS := Lib.hid hs
  clear hs
  go_enter Try.func23, Try.ntmps23
  go_wp2_with (fail)
  refine HC.out.mono ?_
  rintro e w1 ⟨B, cap, rfl, u1, h1, h2, h3⟩
  have U1 := Lib.hid u1
  have H3 := Lib.hid h3
  clear u1 h3
  go_wp2_with (fail)
  go_loopg [4] (L - 1) (fun g v4 wl => ∃ k : Nat, v4 = .int .i64 (k : Int) ∧ 1 ≤ k ∧ k ≤ max 1 L ∧ g = L - k ∧ Hid (spTo s k = true) ∧ Hid (Upd [] w1 wl))
  case atStart => exact ⟨1, rfl, by omega, by omega, rfl, Lib.hid rfl, Lib.hid (Upd.refl _ _)⟩
  case round =>
    obtain ⟨k, rfl, hk1, hk, hg, HT, U⟩ := hrel
    rcases Nat.lt_or_ge k L with hlt | hge
    · have dk : decide ((k : Int) < (L : Int)) = true := decide_eq_true (by omega)
      obtain ⟨b, o, rfl, hb, hc⟩ := (H3.out.of_upd U.out) (by rw [HS.out]; omega)
      have hks : k < s.length := by rw [HS.out]; exact hlt
      obtain ⟨m, rfl⟩ : ∃ m, k = m + 1 := ⟨k - 1, by omega⟩
      obtain ⟨c1, _⟩ := hc (m + 1) hks
      obtain ⟨c0, _⟩ := hc m (by omega)
      have hn : nearAt s (m + 1) = tooNear s[m + 1].1 s[m].1 := by
        unfold nearAt
        rw [getD_nth s (m + 1) hks, show m + 1 - 1 = m from rfl, getD_nth s m (by omega)]
        simp
      generalize s[m + 1].1 = x at c1 hn
      generalize s[m].1 = y at c0 hn
      have n1 : ∀ z : Near [] wr, z.1.cell? ⟨b, o + (m + 1) * 2, none⟩ = some (.int .i64 x) := fun z => by rw [← c1]; exact World.cell?_of_block (z.2.block b hb (by simp))
      have n0 : ∀ z : Near [] wr, z.1.cell? ⟨b, o + m * 2, none⟩ = some (.int .i64 y) := fun z => by rw [← c0]; exact World.cell?_of_block (z.2.block b hb (by simp))
      have HN := Lib.hid hn
      clear hn hc c0 c1
      by_cases q : IntKind.u64.wrap (IntKind.u64.wrap x - IntKind.u64.wrap y) < 8192
      · have dq : decide (IntKind.u64.wrap (IntKind.u64.wrap x - IntKind.u64.wrap y) < 8192) = true := decide_eq_true q
        have HE := HR2.out
        rw [spTo_false (s := s) (n := m + 1) (by rw [HN.out]; exact dq) L hlt] at HE
        subst HE
        go_upto_region 5 with (fail)
        refine wp_region_plan (fun z => ∃ x : Near [] wr, z = x.1) [] [0, 1, 2, 3, 4, 5, 6, 7, 8, 9, 10, 11, 12, 13, 14] (by kernel_rfl) (by kernel_rfl) (by kernel_rfl) (by kernel_rfl) (fun _ d _ _ _ h => by cases d <;> exact h) ⟨⟨(wr).drew, (Upd.refl _ _).drew⟩, rfl⟩ ?_
        refine plan_last ?_
        simp only [opsAt, List.map_cons, List.map_nil, List.getElem?_toArray, List.getElem?_cons_zero, List.getElem?_cons_succ, Option.getD_some]
        repeat (go_big_quiet_step (fail))
        refine wpQuiet_nil ?_
        unfold planEnd
        go_wp2_with fail
        go_ret
        exact ⟨rfl, U1.out.trans U.out.drew⟩
      · have dq : decide (IntKind.u64.wrap (IntKind.u64.wrap x - IntKind.u64.wrap y) < 8192) = false := decide_eq_false q
        have hT : spTo s (m + 1 + 1) = true := by
          show (spTo s (m + 1) && !nearAt s (m + 1)) = true
          rw [HT.out, HN.out, show tooNear x y = false from dq]; rfl
        have HT2 := Lib.hid hT
        clear hT
        go_upto_region 5 with (fail)
        refine wp_region_plan (fun z => ∃ x : Near [] wr, z = x.1) [] [0, 1, 2, 3, 4, 5, 6, 7, 8, 9, 10, 11, 12, 13, 14] (by kernel_rfl) (by kernel_rfl) (by kernel_rfl) (by kernel_rfl) (fun _ d _ _ _ h => by cases d <;> exact h) ⟨⟨(wr).drew, (Upd.refl _ _).drew⟩, rfl⟩ ?_
        refine plan_last ?_
        simp only [opsAt, List.map_cons, List.map_nil, List.getElem?_toArray, List.getElem?_cons_zero, List.getElem?_cons_succ, Option.getD_some]
        repeat (go_big_quiet_step (fail))
        refine wpQuiet_nil ?_
        unfold planEnd
        go_wp2_with fail
        go_roundg (L - (m + 2))
        case measure => omega
        case rel => exact ⟨m + 2, by go_num, by omega, by omega, by omega, HT2, Lib.hid U.out.drew⟩
    · have dk : decide ((k : Int) < (L : Int)) = false := decide_eq_false (by omega)
      have hr : r = true := by
        rw [← HR2.out]
        rcases Nat.eq_zero_or_pos L with h0 | h0
        · rw [h0]; rfl
        · rw [show L = k by omega]; exact HT.out
      subst hr
      go_wp2_with (fail)
      go_ret
      exact ⟨rfl, U1.out.trans U.out⟩

theorem srcAt_ints {w : World} {A : Option Addr} {l : List Int} (h : IntsAt' w A l) : SrcAt w A (iVals l) := fun hne => by
  have h0 : 0 < l.length := by
    rcases Nat.eq_zero_or_pos l.length with h0 | h0
    · rw [List.length_eq_zero_iff] at h0; subst h0; exact absurd rfl hne
    · exact h0
  obtain ⟨b, o, hA, hb, hc⟩ := h h0
  refine ⟨b, o, hA, fun j v hv => ?_⟩
  have hj : j < l.length := by
    rcases Nat.lt_or_ge j l.length with h1 | h1
    · exact h1
    · rw [List.getElem?_eq_none (by simpa [iVals] using h1)] at hv; cases hv
  have := hc j hj
  rw [this]
  simpa [iVals, hj] using hv
set_option maxHeartbeats 1000000 in
theorem At_calls (A : Option Addr) (l : List UpV) (c : Nat) (cy : Int) (w : World) (h : UpsAt w A l) (hl : l.length ≤ 1048576) :
    Calls Try.prog 22 #[.slice A l.length c, .int .i64 cy] w fun e w' => ∃ B cap, e = .returned (.slice B (ats cy (srt l)).length cap) ∧ (ats cy (srt l)).length ≤ cap ∧ cap ≤ 9223372036854775807 ∧ IntsAt' w' B (ats cy (srt l)) ∧ Upd [] w w' := by
  have HC := Lib.hid (Sort_calls A l c w h hl)
  clear h
  have hs := srt_len l
  generalize hL : l.length = L at hl HC hs ⊢
  clear hL
  generalize srt l = s at HC hs ⊢
  have HS := Lib.hid hs
  clear hs
  go_enter Try.func22, Try.ntmps22
  go_wp2_with (fail)
  refine HC.out.mono ?_
  rintro e w1 ⟨B, cap, rfl, u1, h1, h2, h3⟩
  have U1 := Lib.hid u1
  have H3 := Lib.hid h3
  clear u1 h3
  go_wp2_with (fail)
  go_loopg [5, 11] L (fun g v5 v11 wl => ∃ k : Nat, ∃ u5 : Value, u5 = v5 ∧ v11 = .int .i64 (k : Int) ∧ k ≤ L ∧ g = L - k ∧ Hid (wl.ownsRow w1.heap.size 3 1 u5 (ats cy (s.take k)).length (iVals (ats cy (s.take k)))) ∧ Hid (Upd [] w1 wl))
  case atStart => exact ⟨0, _, rfl, rfl, by omega, rfl, Lib.hid ⟨rfl, .inl ⟨rfl, rfl⟩⟩, Lib.hid (Upd.refl _ _)⟩
  case round =>
    obtain ⟨k, u5, rfl, rfl, hk, hg, HO, U⟩ := hrel
    rcases Nat.lt_or_ge k L with hlt | hge
    · have dk : decide ((k : Int) < (L : Int)) = true := decide_eq_true (by omega)
      obtain ⟨b, o, rfl, hb, hc⟩ := (H3.out.of_upd U.out) (by rw [HS.out]; omega)
      have hks : k < s.length := by rw [HS.out]; exact hlt
      obtain ⟨c1, c2⟩ := hc k hks
      have hsn := ats_snoc cy (s.take k) s[k]
      rw [← List.take_succ_eq_append_getElem hks] at hsn
      have hln := ats_len cy (s.take k)
      rw [List.length_take] at hln
      generalize hx : s[k] = x at c1 c2 hsn
      obtain ⟨x1, x2⟩ := x
      simp only at c1 c2 hsn
      have HSN := Lib.hid hsn
      clear hc hx hsn
      generalize ats cy (s.take k) = a at HO HSN hln
      by_cases q : x1 = cy
      · have dq : (x1 == cy) = true := beq_iff_eq.2 q
        have HSN2 := Lib.hid HSN.out
        rw [if_pos q] at HSN2
        clear HSN q
        have hb1 := U.out.size
        have hsz2 : ∀ o1 o2 : Obj, w1.heap.size ≤ ((wr.alloc o1).alloc o2).heap.size := fun o1 o2 => by simp; omega
        go_wp2_with ((at_builtin; refine stop_here ?_))
        intro _
        (refine L_append _ (.tmp 19) (.tmp 22) 39 rfl (by kernel_rfl) w1.heap.size 3 _ 1 8 Try.underlying39 info_i64 rfl (by omega) u5 a.length (iVals a) rfl ((HO.out.alloc _).alloc _) (some ⟨wr.heap.size + 1, 0, none⟩) 1 1 (iVals [x2]) rfl rfl (fun _ => ⟨_, 0, rfl, row_range (by simpa using Go.heap_alloc_last (wr.alloc _) (.cells #[.int .i64 x2] 3))⟩) (iVals_one _) (by simp only [maxLen]; omega) (by omega) (hsz2 _ _) ?_)
        intro v' w' own g1 at1
        have UA := Lib.hid (((U.out.alloc _).alloc _).grown g1 (fun g hg hlt => by
          have := (((HO.out.alloc (.cells #[.int .i64 x1, .int .i64 x2] 37)).alloc (.cells #[.int .i64 x2] 3)).lt g hg).1
          omega))
        have hv : iVals a ++ iVals [x2] = iVals (a ++ [x2]) := by simp [iVals]
        rw [hv] at own
        have OWN : Hid (w'.ownsRow w1.heap.size 3 1 v' (a ++ [x2]).length (iVals (a ++ [x2]))) := Lib.hid (by rw [List.length_append]; exact own)
        clear own g1 at1 hv hsz2
        go_wp2_with (fail)
        go_roundg (L - (k + 1))
        case measure => omega
        case rel => exact ⟨k + 1, _, rfl, by go_num, by omega, rfl, Lib.hid (by rw [HSN2.out]; exact OWN.out), UA⟩
      · have dq : (x1 == cy) = false := by rw [← Bool.not_eq_true, beq_iff_eq]; exact q
        have HSN2 := HSN.out
        rw [if_neg q, List.append_nil] at HSN2
        have HS3 := Lib.hid HSN2
        clear HSN HSN2 q
        go_wp2_with (fail)
        go_roundg (L - (k + 1))
        case measure => omega
        case rel => exact ⟨k + 1, _, rfl, by go_num, by omega, rfl, Lib.hid (by rw [HS3.out]; exact HO.out.alloc _), Lib.hid (U.out.alloc _)⟩
    · obtain rfl : k = L := by omega
      obtain ⟨B2, cap2, rfl, hn, hc, hc2, hI⟩ := ints_of_own HO.out
      have hI2 := Lib.hid hI
      have et : s.take k = s := by rw [← HS.out, List.take_length]
      rw [et] at hI2 hc
      rw [et]
      clear hI hn HO
      go_wp2_with (fail)
      go_ret
      exact ⟨B2, cap2, rfl, hc, hc2, hI2.out, U1.out.trans U.out⟩
end Go.Proofs.Ytgdmmhedcklkaaa
