/- Where two rows of records differ first. -/
import Derived.Test.YtgdmmhedcklkaaaCmp
namespace Go.Proofs.Ytgdmmhedcklkaaa
open Go.RowKit Go.Dio

/-- A slice of records reads as a list. -/
def RetsAt (w : World) (A : Option Addr) (l : List RetV) : Prop :=
  0 < l.length → ∃ b o, A = some ⟨b, o, none⟩ ∧ b < w.heap.size ∧ ∀ i (h : i < l.length), w.rangeAt b (o + i * 7) l[i].arr.toList

theorem rangeAt_upd {w w' : World} {b o : Nat} {cs : List Value} (h : w.rangeAt b o cs) (hb : b < w.heap.size) (hu : Upd [] w w') : w'.rangeAt b o cs := fun j v hv => by
  rw [← h j v hv]; exact World.cell?_of_block (w := w) (hu.block b hb (by simp))

theorem RetsAt.of_upd {w w' : World} {A : Option Addr} {l : List RetV} (h : RetsAt w A l) (hu : Upd [] w w') : RetsAt w' A l := fun h0 => by
  obtain ⟨b, o, hA, hb, hc⟩ := h h0
  exact ⟨b, o, hA, Nat.lt_of_lt_of_le hb hu.size, fun i hi => rangeAt_upd (hc i hi) hb hu⟩

theorem retsAt_new1 (w : World) (r : RetV) (t : TypeId) : RetsAt (w.alloc (.cells r.arr t)) (some ⟨w.heap.size, 0, none⟩) [r] := fun _ =>
  ⟨w.heap.size, 0, rfl, by simp, fun i hi => by
    obtain rfl : i = 0 := by simpa using hi
    exact row_range (Go.heap_alloc_last w _)⟩
theorem retsAt_new2 (w : World) (r s : RetV) (t : TypeId) : RetsAt (w.alloc (.cells (r.arr ++ s.arr) t)) (some ⟨w.heap.size, 0, none⟩) [r, s] := fun _ =>
  ⟨w.heap.size, 0, rfl, by simp, fun i hi => by
    have h := row_range (Go.heap_alloc_last w (.cells (r.arr ++ s.arr) t))
    have hi2 : i = 0 ∨ i = 1 := by simp at hi; omega
    rcases hi2 with rfl | rfl
    · intro j v hv
      have hv' : r.arr.toList[j]? = some v := hv
      refine h j v ?_
      rw [Array.toList_append, List.getElem?_append_left (List.getElem?_eq_some_iff.1 hv').1]
      exact hv'
    · intro j v hv
      have hv' : s.arr.toList[j]? = some v := hv
      have e : (r.arr ++ s.arr).toList[7 + j]? = some v := by
        rw [Array.toList_append, List.getElem?_append_right (by simp [RetV.arr])]
        simpa [RetV.arr] using hv'
      have := h (7 + j) v e
      simpa [Nat.add_assoc] using this⟩

def fd : Nat → List RetV → List RetV → Int
  | _, [], [] => -1
  | k, x :: xs, y :: ys => if x = y then fd (k + 1) xs ys else k
  | k, _, _ => k

theorem fd_same {l m : List RetV} (k : Nat) (h1 : k < l.length) (h2 : k < m.length) (e : l[k] = m[k]) : fd k (l.drop k) (m.drop k) = fd (k + 1) (l.drop (k + 1)) (m.drop (k + 1)) := by
  rw [List.drop_eq_getElem_cons h1, List.drop_eq_getElem_cons h2, fd, if_pos e]
theorem fd_diff {l m : List RetV} (k : Nat) (h1 : k < l.length) (h2 : k < m.length) (e : ¬ l[k] = m[k]) : fd k (l.drop k) (m.drop k) = k := by
  rw [List.drop_eq_getElem_cons h1, List.drop_eq_getElem_cons h2, fd, if_neg e]
theorem fd_end {l m : List RetV} (k : Nat) (h1 : l.length ≤ k) (h2 : m.length ≤ k) : fd k (l.drop k) (m.drop k) = -1 := by
  rw [List.drop_eq_nil_of_le h1, List.drop_eq_nil_of_le h2, fd]
theorem fd_short1 {l m : List RetV} (k : Nat) (h1 : l.length ≤ k) (h2 : k < m.length) : fd k (l.drop k) (m.drop k) = k := by
  rw [List.drop_eq_nil_of_le h1, List.drop_eq_getElem_cons h2, fd]
  · intro _ e; cases e
  · intro x xs y ys e; cases e
theorem fd_short2 {l m : List RetV} (k : Nat) (h1 : k < l.length) (h2 : m.length ≤ k) : fd k (l.drop k) (m.drop k) = k := by
  rw [List.drop_eq_nil_of_le h2, List.drop_eq_getElem_cons h1, fd]
  · intro e; cases e
  · intro x xs y ys _ e; cases e

set_option maxHeartbeats 1000000 in
theorem First_calls (A B : Option Addr) (l m : List RetV) (c d : Nat) (w : World) (ha : RetsAt w A l) (hb : RetsAt w B m) (hl : l.length ≤ 9223372036854775807) (hm : m.length ≤ 9223372036854775807) :
    Calls Try.prog 15 #[.slice A l.length c, .slice B m.length d] w fun e w' => e = .returned (.int .i64 (fd 0 l m)) ∧ Below w.heap.size w w' := by
  obtain ⟨n, hn⟩ : ∃ n, n = min l.length m.length := ⟨_, rfl⟩
  have hmin := min2_nat .i64 (l.length : Int) (m.length : Int) (n : Int) (by omega)
  have n1 : n ≤ l.length := by omega
  have n2 : n ≤ m.length := by omega
  have HN := Lib.hid hn
  clear hn
  rcases Nat.eq_zero_or_pos n with h0 | h0
  · subst h0
    clear ha hb
    go_enter Try.func15, Try.ntmps15
    go_wp2
    refine wp_loop_rounds 1 ?_
    rw [rounds_succ]
    by_cases hne : l.length = m.length
    · obtain ⟨y1, y2⟩ := cast_eq_b hne
      have HF : Hid (fd 0 l m = -1) := by have := HN.out; exact fd_end 0 (by omega) (by omega)
      clear hne
      go_wp2
      go_ret
      exact ⟨by rw [HF.out]; rfl, Below.refl _ _⟩
    · obtain ⟨y1, y2⟩ := cast_ne_b hne
      have HF : Hid (fd 0 l m = ((0 : Nat) : Int)) := by
        rcases Nat.lt_or_ge 0 l.length with h | h
        · exact fd_short2 0 h (by have := HN.out; omega)
        · exact fd_short1 0 h (by have := HN.out; omega)
      clear hne
      go_wp2
      go_ret
      exact ⟨by rw [HF.out]; rfl, Below.refl _ _⟩
  · obtain ⟨b1, o1, rfl, hb1, hc1⟩ := ha (by omega)
    obtain ⟨b2, o2, rfl, hb2, hc2⟩ := hb (by omega)
    have C1 := Lib.hid hc1
    have C2 := Lib.hid hc2
    clear ha hb hc1 hc2
    go_enter Try.func15, Try.ntmps15
    go_wp2
    go_loopw [6, 13] (fun _ i wr => ∃ k : Nat, k ≤ n ∧ i = .int .i64 k ∧ Hid (fd 0 l m = fd k (l.drop k) (m.drop k)) ∧ Hid (Below w.heap.size w wr)) (fun _ i _ => n - (intOf i).toNat)
    case atStart => exact ⟨0, Nat.zero_le _, rfl, rfl, Below.refl _ _⟩
    case round =>
      obtain ⟨k, hk, rfl, HT, HW⟩ := hrel
      by_cases hlt : k < n
      · have hkl : k < l.length := by omega
        have hkm : k < m.length := by omega
        have g1 : ∀ x : Near [] wr, x.1.rangeAt b1 (o1 + k * 7) l[k].arr.toList := fun x => rangeAt_upd (C1.out k hkl) hb1 ((Upd.of_below HW.out).trans x.2)
        have g2 : ∀ x : Near [] wr, x.1.rangeAt b2 (o2 + k * 7) m[k].arr.toList := fun x => rangeAt_upd (C2.out k hkm) hb2 ((Upd.of_below HW.out).trans x.2)
        have G1 := Lib.hid g1
        have G2 := Lib.hid g2
        clear g1 g2
        go_wp2
        refine wp_region_near [] (by kernel_rfl) (by kernel_rfl) ?_
        repeat (go_big_quiet_step (fail))
        refine Q_load 24 (.tmp 18) rfl (by kernel_rfl) _ _ rfl l[k].arr (by rintro _ ⟨x, rfl⟩; exact G1.out x) Try.underlying24 rfl 7 info_ret (RetV.arr_size _) ?_
        go_simp
        repeat (go_big_quiet_step (fail))
        refine Q_load 24 (.tmp 22) rfl (by kernel_rfl) _ _ rfl m[k].arr (by rintro _ ⟨x, rfl⟩; exact G2.out x) Try.underlying24 rfl 7 info_ret (RetV.arr_size _) ?_
        go_simp
        by_cases he : l[k] = m[k]
        · have HF : Hid (fd 0 l m = fd (k + 1) (l.drop (k + 1)) (m.drop (k + 1))) := by rw [Hid, HT.out]; exact fd_same k hkl hkm he
          have hd : decide (l[k] = m[k]) = true := decide_eq_true he
          clear he
          repeat (go_big_quiet_step ((exact Calls.near (Same_calls _ _ _))))
          refine wpQuiet_nil ?_
          intro x
          have HX : Hid (Below w.heap.size w x.1) := HW.out.trans ((x.2.below).mono HW.out.size)
          go_wp2
          go_roundw
          case rel => exact ⟨k + 1, by omega, by go_num, HF, HX⟩
          case measure => simp [intOf]; omega
        · have HF : Hid (fd 0 l m = k) := by rw [Hid, HT.out]; exact fd_diff k hkl hkm he
          have hd : decide (l[k] = m[k]) = false := decide_eq_false he
          clear he
          repeat (go_big_quiet_step ((exact Calls.near (Same_calls _ _ _))))
          refine wpQuiet_nil ?_
          intro x
          have HX : Hid (Below w.heap.size w x.1) := HW.out.trans ((x.2.below).mono HW.out.size)
          go_wp2
          go_ret
          exact ⟨by rw [HF.out]; rfl, HX.out⟩
      · by_cases hne : l.length = m.length
        · obtain ⟨y1, y2⟩ := cast_eq_b hne
          have HF : Hid (fd 0 l m = -1) := by rw [Hid, HT.out]; have := HN.out; exact fd_end _ (by omega) (by omega)
          clear hne
          go_wp2
          go_ret
          exact ⟨by rw [HF.out]; rfl, HW.out⟩
        · obtain ⟨y1, y2⟩ := cast_ne_b hne
          have HF : Hid (fd 0 l m = (n : Int)) := by
            rw [Hid, HT.out, show k = n by omega]
            rcases Nat.lt_or_ge n l.length with h | h
            · exact fd_short2 n h (by have := HN.out; omega)
            · exact fd_short1 n h (by have := HN.out; omega)
          clear hne
          go_wp2
          go_ret
          exact ⟨by rw [HF.out]; rfl, HW.out⟩
end Go.Proofs.Ytgdmmhedcklkaaa
