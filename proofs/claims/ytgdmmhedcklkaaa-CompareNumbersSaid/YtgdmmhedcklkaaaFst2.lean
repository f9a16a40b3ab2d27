/- Law 12's own 'first'. -/
import Derived.Test.YtgdmmhedcklkaaaFst
namespace Go.Proofs.Ytgdmmhedcklkaaa
open Go.RowKit Go.Dio

set_option maxHeartbeats 1000000 in
theorem first_calls (A B : Option Addr) (l m : List RetV) (c d : Nat) (w : World) (ha : RetsAt w A l) (hb : RetsAt w B m) (hl : l.length < 9223372036854775807) (hm : m.length < 9223372036854775807) :
    Calls Try.prog 16 #[.slice A l.length c, .slice B m.length d] w fun e w' => e = .returned (.int .i64 (fd 0 l m)) ∧ Below w.heap.size w w' := by
  rcases Nat.eq_zero_or_pos (min l.length m.length) with h0 | h0
  · clear ha hb
    rcases Nat.eq_zero_or_pos l.length with hl0 | hl0
    · rcases Nat.eq_zero_or_pos m.length with hm0 | hm0
      · obtain rfl : l = [] := List.eq_nil_of_length_eq_zero hl0
        obtain rfl : m = [] := List.eq_nil_of_length_eq_zero hm0
        clear hl0 hm0
        have HF : Hid (fd 0 [] [] = -1) := rfl
        clear h0
        go_enter Try.func16, Try.ntmps16
        go_wp2
        refine wp_loop_rounds 1 ?_
        rw [rounds_succ]
        go_wp2
        go_ret
        exact ⟨by rw [HF.out]; rfl, Below.refl _ _⟩
      · obtain rfl : l = [] := List.eq_nil_of_length_eq_zero hl0
        clear hl0
        have HF : Hid (fd 0 [] m = ((0 : Nat) : Int)) := fd_short1 (l := []) 0 (by simp) (by omega)
        clear h0
        obtain ⟨n2, hn2⟩ : ∃ n2, n2 = m.length := ⟨_, rfl⟩
        rw [← hn2] at hm hm0 ⊢
        clear hn2
        have hd1 : decide ((n2 : Int) ≤ 0) = false := decide_eq_false (by omega)
        have hd2 : decide (n2 = 0) = false := decide_eq_false (by omega)
        have hd3 : decide ((0 : Int) < (n2 : Int)) = true := decide_eq_true (by omega)
        go_enter Try.func16, Try.ntmps16
        go_wp2
        refine wp_loop_rounds 1 ?_
        rw [rounds_succ]
        go_wp2
        go_quiet (fail)
        go_wp2
        go_ret
        exact ⟨by rw [HF.out]; rfl, drewN_below _ _⟩
    · obtain rfl : m = [] := List.eq_nil_of_length_eq_zero (by omega)
      have HF : Hid (fd 0 l [] = ((0 : Nat) : Int)) := fd_short2 (m := []) 0 (by omega) (by simp)
      clear h0
      obtain ⟨n2, hn2⟩ : ∃ n2, n2 = l.length := ⟨_, rfl⟩
      rw [← hn2] at hl hl0 ⊢
      clear hn2
      have hd1 : decide ((n2 : Int) ≤ 0) = false := decide_eq_false (by omega)
      have hd2 : decide (n2 = 0) = false := decide_eq_false (by omega)
      have hd3 : decide ((0 : Int) < (n2 : Int)) = true := decide_eq_true (by omega)
      go_enter Try.func16, Try.ntmps16
      go_wp2
      refine wp_loop_rounds 1 ?_
      rw [rounds_succ]
      go_wp2
      go_quiet (fail)
      go_wp2
      go_ret
      exact ⟨by rw [HF.out]; rfl, drewN_below _ _⟩
  · obtain ⟨b1, o1, rfl, hb1, hc1⟩ := ha (by omega)
    obtain ⟨b2, o2, rfl, hb2, hc2⟩ := hb (by omega)
    have C1 := Lib.hid hc1
    have C2 := Lib.hid hc2
    clear ha hb hc1 hc2 h0
    go_enter Try.func16, Try.ntmps16
    go_wp2
    go_loopw [5] (fun i wr => ∃ k : Nat, k ≤ l.length ∧ k ≤ m.length ∧ i = .int .i64 k ∧ Hid (fd 0 l m = fd k (l.drop k) (m.drop k)) ∧ Hid (Below w.heap.size w wr)) (fun i _ => l.length + 1 - (intOf i).toNat)
    case atStart => exact ⟨0, Nat.zero_le _, Nat.zero_le _, rfl, rfl, Below.refl _ _⟩
    case round =>
      obtain ⟨k, hk1, hk2, rfl, HT, HW⟩ := hrel
      by_cases hkl : k < l.length
      · obtain ⟨x1, x2, y1, y2⟩ := dec_lt hkl
        by_cases hkm : k < m.length
        · obtain ⟨x3, x4, y3, y4⟩ := dec_lt hkm
          have g1 : ∀ x : Near [] wr, x.1.rangeAt b1 (o1 + k * 7) l[k].arr.toList := fun x => rangeAt_upd (C1.out k hkl) hb1 ((Upd.of_below HW.out).trans x.2)
          have g2 : ∀ x : Near [] wr, x.1.rangeAt b2 (o2 + k * 7) m[k].arr.toList := fun x => rangeAt_upd (C2.out k hkm) hb2 ((Upd.of_below HW.out).trans x.2)
          have G1 := Lib.hid g1
          have G2 := Lib.hid g2
          have hq := ret_eq l[k] m[k]
          clear g1 g2
          by_cases he : l[k] = m[k]
          · have HF : Hid (fd 0 l m = fd (k + 1) (l.drop (k + 1)) (m.drop (k + 1))) := by rw [Hid, HT.out]; exact fd_same k hkl hkm he
            have hd : decide (l[k] = m[k]) = true := decide_eq_true he
            clear he
            go_wp2
            refine wp_region_near [] (by kernel_rfl) (by kernel_rfl) ?_
            repeat (go_big_quiet_step (fail))
            refine Q_load 24 (.tmp 31) rfl (by kernel_rfl) _ _ rfl l[k].arr (by rintro _ ⟨x, rfl⟩; exact G1.out x) Try.underlying24 rfl 7 info_ret (RetV.arr_size _) ?_
            go_simp
            repeat (go_big_quiet_step (fail))
            refine Q_load 24 (.tmp 35) rfl (by kernel_rfl) _ _ rfl m[k].arr (by rintro _ ⟨x, rfl⟩; exact G2.out x) Try.underlying24 rfl 7 info_ret (RetV.arr_size _) ?_
            go_simp
            repeat (go_big_quiet_step (fail))
            refine wpQuiet_nil ?_
            intro x
            have HX : Hid (Below w.heap.size w x.1) := HW.out.trans ((x.2.below).mono HW.out.size)
            go_wp2
            go_roundw
            case rel => exact ⟨k + 1, by omega, by omega, by go_num, HF, HX⟩
            case measure => simp [intOf]; omega
          · have HF : Hid (fd 0 l m = k) := by rw [Hid, HT.out]; exact fd_diff k hkl hkm he
            have hd : decide (l[k] = m[k]) = false := decide_eq_false he
            clear he
            go_wp2
            refine wp_region_near [] (by kernel_rfl) (by kernel_rfl) ?_
            repeat (go_big_quiet_step (fail))
            refine Q_load 24 (.tmp 31) rfl (by kernel_rfl) _ _ rfl l[k].arr (by rintro _ ⟨x, rfl⟩; exact G1.out x) Try.underlying24 rfl 7 info_ret (RetV.arr_size _) ?_
            go_simp
            repeat (go_big_quiet_step (fail))
            refine Q_load 24 (.tmp 35) rfl (by kernel_rfl) _ _ rfl m[k].arr (by rintro _ ⟨x, rfl⟩; exact G2.out x) Try.underlying24 rfl 7 info_ret (RetV.arr_size _) ?_
            go_simp
            repeat (go_big_quiet_step (fail))
            refine wpQuiet_nil ?_
            intro x
            have HX : Hid (Below w.heap.size w x.1) := HW.out.trans ((x.2.below).mono HW.out.size)
            go_wp2
            go_ret
            exact ⟨by rw [HF.out]; rfl, HX.out⟩
        · obtain ⟨x3, x4, y3, y4⟩ := dec_ge (Nat.le_of_not_lt hkm)
          have HF : Hid (fd 0 l m = k) := by rw [Hid, HT.out]; exact fd_short2 k hkl (by omega)
          go_wp2
          go_quiet (fail)
          go_wp2
          go_ret
          exact ⟨by rw [HF.out]; rfl, HW.out.trans ((drewN_below _ _).mono HW.out.size)⟩
      · obtain ⟨x1, x2, y1, y2⟩ := dec_ge (Nat.le_of_not_lt hkl)
        by_cases hkm : k < m.length
        · obtain ⟨x3, x4, y3, y4⟩ := dec_lt hkm
          have HF : Hid (fd 0 l m = k) := by rw [Hid, HT.out]; exact fd_short1 k (by omega) hkm
          go_wp2
          go_quiet (fail)
          go_wp2
          go_ret
          exact ⟨by rw [HF.out]; rfl, HW.out.trans ((drewN_below _ _).mono HW.out.size)⟩
        · obtain ⟨x3, x4, y3, y4⟩ := dec_ge (Nat.le_of_not_lt hkm)
          have HF : Hid (fd 0 l m = -1) := by rw [Hid, HT.out]; exact fd_end k (by omega) (by omega)
          go_wp2
          go_ret
          exact ⟨by rw [HF.out]; rfl, HW.out⟩
end Go.Proofs.Ytgdmmhedcklkaaa
