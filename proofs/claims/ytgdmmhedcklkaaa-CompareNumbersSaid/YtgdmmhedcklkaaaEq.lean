/- Slices of words: when two are the same; when one begins another. -/
import Derived.Test.YtgdmmhedcklkaaaProg
import Derived.Test.YtgdmmhedcklkaaaBase
namespace Go.Proofs.Ytgdmmhedcklkaaa
open Go.RowKit Go.Dio

theorem take_eq_of {l m : List Nat} (k : Nat) (h : l.take k = m.take k) (h1 : k < l.length) (h2 : k < m.length) (e : nth l k = nth m k) : l.take (k + 1) = m.take (k + 1) := by
  rw [List.take_succ_eq_append_getElem h1, List.take_succ_eq_append_getElem h2, h]
  rw [nth_eq l k h1, nth_eq m k h2] at e
  rw [e]

theorem ne_of_nth {l m : List Nat} (k : Nat) (e : ¬ nth l k = nth m k) : ¬ l = m := by
  rintro rfl; exact e rfl

set_option maxHeartbeats 400000 in
theorem Equal_calls (A B : Option Addr) (l m : List Nat) (c d : Nat) (w : World) (ha : NumsAt w .u32 A l) (hb : NumsAt w .u32 B m) (hl : l.length ≤ 9223372036854775807) :
    Calls Try.prog 20 #[.slice A l.length c, .slice B m.length d] w fun e w' => e = .returned (.bool (decide (l = m))) ∧ ∃ n, w' = w.drewN n := by
  by_cases hlm : l.length = m.length
  · rcases Nat.eq_zero_or_pos l.length with h0 | h0
    · have hl0 : l = [] := List.eq_nil_of_length_eq_zero h0
      have hm0 : m = [] := List.eq_nil_of_length_eq_zero (by omega)
      subst hl0 hm0
      clear ha hb hlm h0
      go_enter Try.func20, Try.ntmps20
      go_wp2
      refine wp_loop_rounds 1 ?_
      rw [rounds_succ]
      go_wp2
      go_ret
      exact ⟨rfl, 0, rfl⟩
    · obtain ⟨b1, o1, rfl, _, hc1⟩ := ha h0
      obtain ⟨b2, o2, rfl, _, hc2⟩ := hb (by omega)
      have H0 := Lib.hid hlm
      have hml : m.length ≤ l.length := by omega
      have hml' : l.length ≤ m.length := by omega
      have C1 := Lib.hid hc1
      have C2 := Lib.hid hc2
      have hneq : (((l.length : Nat) : Int) != ((m.length : Nat) : Int)) = false := by simp; omega
      clear ha hb hc1 hc2 hlm
      go_enter Try.func20, Try.ntmps20
      go_wp2
      go_loopw [5, 13] (fun _ i wr => ∃ k : Nat, k ≤ l.length ∧ i = .int .i64 k ∧ Hid (l.take k = m.take k) ∧ ∃ n, wr = w.drewN n) (fun _ i _ => l.length - (intOf i).toNat)
      case atStart => exact ⟨0, Nat.zero_le _, rfl, rfl, 0, rfl⟩
      case round =>
        obtain ⟨k, hk, rfl, HT, n, rfl⟩ := hrel
        by_cases hlt : k < l.length
        · have g1 := C1.out k hlt
          have g2 := C2.out k (by omega)
          by_cases he : nth l k = nth m k
          · obtain ⟨hb1, hb2⟩ := cast_eq_b he
            have HN : Hid (l.take (k + 1) = m.take (k + 1)) := take_eq_of k HT.out hlt (by omega) he
            clear he
            have hkm : k < m.length := by omega
            go_wp2
            go_quiet (fail)
            go_wp2
            go_roundw
            case rel => exact ⟨k + 1, by omega, by go_num, HN, _, rfl⟩
            case measure => simp [intOf]; omega
          · obtain ⟨hb1, hb2⟩ := cast_ne_b he
            have hd : decide (l = m) = false := by simp; exact ne_of_nth k he
            have HD := Lib.hid hd
            clear he hd
            have hkm : k < m.length := by omega
            go_wp2
            go_quiet (fail)
            go_wp2
            go_ret
            exact ⟨by rw [HD.out]; rfl, _, World.drewN_drewN _ _ _⟩
        · have hd : decide (l = m) = true := by
            have := HT.out
            rw [List.take_of_length_le (by omega), List.take_of_length_le (by omega)] at this
            simpa using this
          have HD := Lib.hid hd
          clear hd
          go_wp2
          go_ret
          exact ⟨by rw [HD.out]; rfl, _, rfl⟩
  · have hd : decide (l = m) = false := by simp; rintro rfl; exact hlm rfl
    have hneq : (((l.length : Nat) : Int) != ((m.length : Nat) : Int)) = true := by simp; omega
    have HD := Lib.hid hd
    clear hd ha hb hlm
    go_enter Try.func20, Try.ntmps20
    go_wp2
    go_ret
    exact ⟨by rw [HD.out]; rfl, 0, rfl⟩

/-- Does one row begin another? -/
def pre (l m : List Nat) : Bool := decide (l = m.take l.length)
theorem pre_iff {l m : List Nat} : pre l m = true ↔ l <+: m := by
  unfold pre; rw [decide_eq_true_iff, List.prefix_iff_eq_take]
theorem pre_long {l m : List Nat} (h : m.length < l.length) : pre l m = false := by
  unfold pre
  rw [decide_eq_false_iff_not]
  intro e
  have := congrArg List.length e
  rw [List.length_take] at this
  omega

set_option maxHeartbeats 400000 in
theorem Prefix_calls (A B : Option Addr) (l m : List Nat) (c d : Nat) (w : World) (ha : NumsAt w .u32 A l) (hb : NumsAt w .u32 B m) (hl : l.length ≤ 9223372036854775807) (hd : m.length ≤ d) :
    Calls Try.prog 17 #[.slice A l.length c, .slice B m.length d] w fun e w' => e = .returned (.bool (pre l m)) ∧ Below w.heap.size w w' := by
  by_cases hlm : l.length ≤ m.length
  · have hbt := hb.take l.length
    have HE := Lib.hid (show (m.take l.length).length = l.length by rw [List.length_take]; omega)
    have HB := Lib.hid hbt
    have HA := Lib.hid ha
    have hdec : decide (((l.length : Nat) : Int) ≤ ((m.length : Nat) : Int)) = true := by simp; omega
    clear ha hb hbt
    go_enter Try.func17, Try.ntmps17
    go_wp2_with fail
    have hc := Equal_calls A B l (m.take l.length) c d w HA.out HB.out hl
    rw [HE.out] at hc
    refine hc.mono ?_
    rintro e w' ⟨rfl, n, rfl⟩
    clear hc
    go_wp2
    go_ret
    exact ⟨rfl, drewN_below _ _⟩
  · have HP := Lib.hid (pre_long (l := l) (m := m) (by omega))
    have hdec : decide (((l.length : Nat) : Int) ≤ ((m.length : Nat) : Int)) = false := by simp; omega
    clear ha hb
    go_enter Try.func17, Try.ntmps17
    go_wp2
    go_ret
    exact ⟨by rw [HP.out]; rfl, Below.refl _ _⟩

set_option maxHeartbeats 400000 in
theorem RefPrefix_calls (A B : Option Addr) (l m : List Nat) (c d : Nat) (w : World) (ha : NumsAt w .u32 A l) (hb : NumsAt w .u32 B m) (hl : l.length ≤ 9223372036854775807) :
    Calls Try.prog 18 #[.slice A l.length c, .slice B m.length d] w fun e w' => e = .returned (.bool (pre l m)) ∧ Below w.heap.size w w' := by
  by_cases hlm : l.length ≤ m.length
  · have hdec : decide (((m.length : Nat) : Int) < ((l.length : Nat) : Int)) = false := by simp; omega
    rcases Nat.eq_zero_or_pos l.length with h0 | h0
    · have hl0 : l = [] := List.eq_nil_of_length_eq_zero h0
      subst hl0
      clear ha hb h0 hlm hl
      go_enter Try.func18, Try.ntmps18
      go_wp2
      refine wp_loop_rounds 1 ?_
      rw [rounds_succ]
      go_wp2
      go_ret
      exact ⟨rfl, Below.refl _ _⟩
    · obtain ⟨b1, o1, rfl, _, hc1⟩ := ha h0
      obtain ⟨b2, o2, rfl, _, hc2⟩ := hb (by omega)
      have C1 := Lib.hid hc1
      have C2 := Lib.hid hc2
      clear ha hb hc1 hc2
      go_enter Try.func18, Try.ntmps18
      go_wp2
      go_loopw [5, 13] (fun _ i wr => ∃ k : Nat, k ≤ l.length ∧ i = .int .i64 k ∧ Hid (l.take k = m.take k) ∧ ∃ n, wr = w.drewN n) (fun _ i _ => l.length - (intOf i).toNat)
      case atStart => exact ⟨0, Nat.zero_le _, rfl, rfl, 0, rfl⟩
      case round =>
        obtain ⟨k, hk, rfl, HT, n, rfl⟩ := hrel
        by_cases hlt : k < l.length
        · have g1 := C1.out k hlt
          have g2 := C2.out k (by omega)
          by_cases he : nth l k = nth m k
          · obtain ⟨hb1, hb2⟩ := cast_eq_b he
            have HN : Hid (l.take (k + 1) = m.take (k + 1)) := take_eq_of k HT.out hlt (by omega) he
            clear he
            have hkm : k < m.length := by omega
            go_wp2
            go_quiet (fail)
            go_wp2
            go_roundw
            case rel => exact ⟨k + 1, by omega, by go_num, HN, _, rfl⟩
            case measure => simp [intOf]; omega
          · obtain ⟨hb1, hb2⟩ := cast_ne_b he
            have hd : pre l m = false := by
              unfold pre
              rw [decide_eq_false_iff_not]
              intro e
              apply he
              rw [nth_eq l k hlt, nth_eq m k (by omega)]
              have := congrArg (·[k]?) e
              simp only [List.getElem?_take, hlt, if_true] at this
              simpa [hlt, show k < m.length by omega] using this
            have HD := Lib.hid hd
            clear he hd
            have hkm : k < m.length := by omega
            go_wp2
            go_quiet (fail)
            go_wp2
            go_ret
            exact ⟨by rw [HD.out]; rfl, World.drewN_drewN w n nq ▸ drewN_below w (n + nq)⟩
        · have hd : pre l m = true := by
            have := HT.out
            rw [List.take_of_length_le (by omega)] at this
            unfold pre
            have hkl : k = l.length := by omega
            rw [hkl] at this
            simpa using this
          have HD := Lib.hid hd
          clear hd
          go_wp2
          go_ret
          exact ⟨by rw [HD.out]; rfl, drewN_below _ _⟩
  · have HP := Lib.hid (pre_long (l := l) (m := m) (by omega))
    have hdec : decide (((m.length : Nat) : Int) < ((l.length : Nat) : Int)) = true := by simp; omega
    clear ha hb
    go_enter Try.func18, Try.ntmps18
    go_wp2
    go_ret
    exact ⟨by rw [HP.out]; rfl, Below.refl _ _⟩
end Go.Proofs.Ytgdmmhedcklkaaa
