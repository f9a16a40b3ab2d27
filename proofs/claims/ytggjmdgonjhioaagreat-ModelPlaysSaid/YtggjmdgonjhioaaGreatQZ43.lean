/- Slices of words: when two are the same; when one begins another. -/
import Derived.Test.YtggjmdgonjhioaaGreatProg
import Derived.Test.YtggjmdgonjhioaaGreatQZ00
namespace Go.Proofs.YtggjmdgonjhioaaGreat
open Go.RowKit Go.Dio

theorem take_eq_of {l m : List Nat} (k : Nat) (h : l.take k = m.take k) (h1 : k < l.length) (h2 : k < m.length) (e : nth l k = nth m k) : l.take (k + 1) = m.take (k + 1) := by
  rw [List.take_succ_eq_append_getElem h1, List.take_succ_eq_append_getElem h2, h]
  rw [nth_eq l k h1, nth_eq m k h2] at e
  rw [e]

theorem ne_of_nth {l m : List Nat} (k : Nat) (e : ¬ nth l k = nth m k) : ¬ l = m := by
  rintro rfl; exact e rfl

/-- Does one row begin another? -/
def pre (l m : List Nat) : Bool := decide (l = m.take l.length)
theorem pre_iff {l m : List Nat} : pre l m = true ↔ l <+: m := by
  unfold pre; rw [decide_eq_true_iff, List.prefix_iff_eq_take]
theorem pre_long {l m : List Nat} (h : m.length < l.length) : pre l m = false := by
  unfold pre
  rw [decide_eq_false_iff_not]
  intro e
  have := congrArg List.length e
  rw [List.length_take] at this
  omega

set_option maxHeartbeats 400000 in
theorem RefPrefix_calls (A B : Option Addr) (l m : List Nat) (c d : Nat) (w : World) (ha : NumsAt w .u32 A l) (hb : NumsAt w .u32 B m) (hl : l.length ≤ 9223372036854775807) :
    Calls Tryz.prog 34 #[.slice A l.length c, .slice B m.length d] w fun e w' => e = .returned (.bool (pre l m)) ∧ Below w.heap.size w w' := by
  by_cases hlm : l.length ≤ m.length
  · have hdec : decide (((m.length : Nat) : Int) < ((l.length : Nat) : Int)) = false := by simp; omega
    rcases Nat.eq_zero_or_pos l.length with h0 | h0
    · have hl0 : l = [] := List.eq_nil_of_length_eq_zero h0
      subst hl0
      clear ha hb h0 hlm hl
      go_enter Tryz.func34, Tryz.ntmps34
      go_wp2
      refine wp_loop_rounds 1 ?_
      rw [rounds_succ]
      go_wp2
      go_ret
      exact ⟨rfl, Below.refl _ _⟩
    · obtain ⟨b1, o1, rfl, _, hc1⟩ := ha h0
      obtain ⟨b2, o2, rfl, _, hc2⟩ := hb (by omega)
      have C1 := Lib.hid hc1
      have C2 := Lib.hid hc2
      clear ha hb hc1 hc2
      go_enter Tryz.func34, Tryz.ntmps34
      go_wp2
      go_loopw [5, 13] (fun _ i wr => ∃ k : Nat, k ≤ l.length ∧ i = .int .i64 k ∧ Hid (l.take k = m.take k) ∧ ∃ n, wr = w.drewN n) (fun _ i _ => l.length - (intOf i).toNat)
      case atStart => exact ⟨0, Nat.zero_le _, rfl, rfl, 0, rfl⟩
      case round =>
        obtain ⟨k, hk, rfl, HT, n, rfl⟩ := hrel
        by_cases hlt : k < l.length
        · have g1 := C1.out k hlt
          have g2 := C2.out k (by omega)
          by_cases he : nth l k = nth m k
          · obtain ⟨hb1, hb2⟩ := cast_eq_b he
            have HN : Hid (l.take (k + 1) = m.take (k + 1)) := take_eq_of k HT.out hlt (by omega) he
            clear he
            have hkm : k < m.length := by omega
            go_wp2
            go_quiet (fail)
            go_wp2
            go_roundw
            case rel => exact ⟨k + 1, by omega, by go_num, HN, _, rfl⟩
            case measure => simp [intOf]; omega
          · obtain ⟨hb1, hb2⟩ := cast_ne_b he
            have hd : pre l m = false := by
              unfold pre
              rw [decide_eq_false_iff_not]
              intro e
              apply he
              rw [nth_eq l k hlt, nth_eq m k (by omega)]
              have := congrArg (·[k]?) e
              simp only [List.getElem?_take, hlt, if_true] at this
              simpa [hlt, show k < m.length by omega] using this
            have HD := Lib.hid hd
            clear he hd
            have hkm : k < m.length := by omega
            go_wp2
            go_quiet (fail)
            go_wp2
            go_ret
            exact ⟨by rw [HD.out]; rfl, World.drewN_drewN w n nq ▸ drewN_below w (n + nq)⟩
        · have hd : pre l m = true := by
            have := HT.out
            rw [List.take_of_length_le (by omega)] at this
            unfold pre
            have hkl : k = l.length := by omega
            rw [hkl] at this
            simpa using this
          have HD := Lib.hid hd
          clear hd
          go_wp2
          go_ret
          exact ⟨by rw [HD.out]; rfl, drewN_below _ _⟩
  · have HP := Lib.hid (pre_long (l := l) (m := m) (by omega))
    have hdec : decide (((m.length : Nat) : Int) < ((l.length : Nat) : Int)) = true := by simp; omega
    clear ha hb
    go_enter Tryz.func34, Tryz.ntmps34
    go_wp2
    go_ret
    exact ⟨by rw [HP.out]; rfl, Below.refl _ _⟩
end Go.Proofs.YtggjmdgonjhioaaGreat
