/- Memory that mends itself, in memory: Words. -/
import Derived.Test.YtfnemolaoijbhacDoorMem4
namespace Go.Proofs.YtfnemolaoijbhacDoor
open Go.RowKit Go.Dio
set_option linter.unusedSimpArgs false
set_option linter.unusedVariables false

theorem info_w32 : (Tryd.prog.info? 26).map (fun i => (i.zero, i.size, i.bytes)) = some (some (.int .u32 0), 1, 4) := by kernel_rfl
theorem made_w32 (n : Nat) : madeCells #[.int .u32 0] n = nums .u32 (List.replicate n 0) := by
  apply Array.ext
  · simp [madeCells, nums]
  · intro i h1 h2
    simp [madeCells, nums, Nat.mod_one]
/-- All words, if none is bad. -/
def wrdB (l : List Nat) : Bool := l.all fun x => decide ((dec x).2 ≠ 2)
def wrdV (l : List Nat) : List Nat := l.map fun x => (dec x).1
theorem wrdB_of {l : List Nat} {n : Nat} (hl : l.length = n) (h : ∀ j, j < n → (dec (nth l j)).2 ≠ 2) : wrdB l = true := by
  rw [wrdB, List.all_eq_true]
  intro x hx
  obtain ⟨j, hj, rfl⟩ := List.getElem_of_mem hx
  have := h j (by omega)
  rw [nth_eq l j hj] at this
  exact decide_eq_true this
theorem wrdB_not {l : List Nat} {j : Nat} (hj : j < l.length) (h : (dec (nth l j)).2 = 2) : wrdB l = false := by
  rw [Bool.eq_false_iff, wrdB]
  intro ha
  rw [List.all_eq_true] at ha
  have := of_decide_eq_true (ha l[j] (List.getElem_mem hj))
  rw [nth_eq l j hj] at h
  exact this h
theorem wrdV_nth (l : List Nat) {j : Nat} (h : j < l.length) : nth (wrdV l) j = (dec (nth l j)).1 := by
  rw [nth_eq _ _ (by simp [wrdV]; exact h), nth_eq l j h]; simp [wrdV]

/-- What 'Words' answers. -/
def WordsAre (l : List Nat) (w : World) (e : Ending) (w' : World) : Prop :=
  Below w.heap.size w w' ∧ ((wrdB l = true ∧ e = .returned (.tuple #[.slice (some ⟨w.heap.size, 0, none⟩) 1024 1024, .int .i64 0]) ∧ w'.heap[w.heap.size]? = some (.cells (nums .u32 (wrdV l)) 26 (0, 0))) ∨
    (wrdB l = false ∧ e = .returned (.tuple #[.slice none 0 0, .int .i64 25])))

set_option maxRecDepth 20000 in
set_option maxHeartbeats 2000000 in
theorem MWords_calls (mb b d : Nat) (l : List Nat) (f a : Nat) (w : World) (h : MemAt mb b d l f a w) (hl : l.length = 1024) :
    Calls Tryd.prog 46 #[.pointer (some ⟨mb, 0, none⟩)] w (WordsAre l w) := by
  obtain ⟨i0, hi, hz0, hz1, hz2⟩ := info_parts info_w32
  have hmk : ∀ u : World, (Instr.makeSlice 43 (.int .i64 1024) (.int .i64 1024)).run Tryd.prog u =
      .ok (.slice (some ⟨u.heap.size, 0, none⟩) 1024 1024) (u.alloc (.cells (nums .u32 (List.replicate 1024 0)) 26)) := fun u => by
    have h := run_make (P := Tryd.prog) u 43 26 i0 (.int .u32 0) Tryd.underlying43 hi hz0 .i64 .i64 1024 1024 (by omega) (Int.le_refl _) (by rw [hz2]; decide) (by decide)
    have e : (1024 : Int).toNat = 1024 := rfl
    rw [e] at h
    rw [← made_w32]
    simpa [hz1, Value.cells] using h
  obtain ⟨o0, ho0⟩ : ∃ o0, o0 = List.replicate 1024 0 := ⟨_, rfl⟩
  have lo0 : o0.length = 1024 := by rw [ho0]; simp
  rw [← ho0] at hmk
  have H := Lib.hid h
  have HL := Lib.hid hl
  have PK := Lib.hid fun (i : Nat) w' (h : MemAt mb b d l f a w') => Peek_calls _ b d l f (i : Int) w' h.row
  clear h hl ho0 hi hz0 hz1 hz2
  go_enter Tryd.func46, Tryd.ntmps46
  go_wp2_with (fail)
  generalize hq : w.heap.size = q
  have HQ := Lib.hid hq
  have H0 : Hid ((w.alloc (.cells (nums .u32 o0) 26)).heap[q]? = some (.cells (nums .u32 o0) 26 (0, 0))) := by rw [← hq]; exact Lib.hid (Go.heap_alloc_last w _)
  have U0 := Lib.hid ((Upd.refl [] w).alloc (.cells (nums .u32 o0) 26))
  clear hq
  generalize w.alloc (.cells (nums .u32 o0) 26) = w1 at H0 U0 ⊢
  go_loopg [11] 1024 (fun g v11 wl => ∃ (k : Nat) (o : List Nat), v11 = .int .i64 (k : Int) ∧ k ≤ 1024 ∧ g = 1024 - k ∧ Hid (o.length = 1024 ∧ ∀ j, j < k → nth o j = (dec (nth l j)).1 ∧ (dec (nth l j)).2 ≠ 2) ∧ Hid (wl.heap[q]? = some (.cells (nums .u32 o) 26 (0, 0))) ∧ Hid (Upd [] w wl))
  case atStart => exact ⟨0, o0, rfl, by omega, rfl, Lib.hid ⟨lo0, fun j hj => by omega⟩, H0, U0⟩
  case round =>
    clear H0 U0
    obtain ⟨k, o, rfl, hk, hg, HO, B, U⟩ := hrel
    rcases Nat.lt_or_ge k 1024 with h1 | h1
    · have c0 : wr.cell? ⟨mb, 0, none⟩ = some (.pointer (some ⟨b, 0, none⟩)) := by rw [cells_of (U.out.keep H.out.cell (by simp))]; rfl
      have P := Lib.hid (PK.out k _ (H.out.upd0 U.out))
      rw [peek_nat' (show k < l.length by rw [HL.out]; exact h1)] at P
      obtain ⟨y, z, hyz⟩ : ∃ y z, dec (nth l k) = (y, z) := ⟨_, _, rfl⟩
      rw [hyz] at P
      have HY := Lib.hid hyz
      clear hyz
      go_wp2_with (fail)
      refine P.out.mono ?_
      rintro e w2 ⟨rfl, hb⟩
      have u1 := Upd.of_below (S := []) hb
      have B1 := Lib.hid (u1.keep B.out (by simp))
      replace U := Lib.hid (U.out.trans u1)
      clear hb u1 B c0 P
      by_cases hz : z = 2
      · subst hz
        have HAl := Lib.hid (wrdB_not (show k < l.length by rw [HL.out]; exact h1) (by rw [HY.out]))
        go_wp2_with (fail)
        go_ret2
        exact ⟨U.out.below, .inr ⟨HAl.out, rfl⟩⟩
      · have dz : ((z : Int) == 2) = false := by rw [beq_eq_false_iff_ne]; omega
        have c1 : w2.cell? ⟨q, k, none⟩ = some (.int .u32 ((nth o k : Nat) : Int)) := by rw [cells_of B1.out]; exact nums_nth .u32 o k (by rw [HO.out.1]; exact h1)
        have f1 : w2.frozen? ⟨q, k, none⟩ = false := free_of B1.out _
        go_wp2_with (fail)
        go_roundg (1024 - (k + 1))
        case measure => omega
        case rel =>
          refine ⟨k + 1, o.set k y, by go_num, by omega, rfl, Lib.hid ⟨by simpa using HO.out.1, fun j hj => ?_⟩, Lib.hid (by rw [heap_setCell_eq B1.out, nums_set]), Lib.hid (U.out.setCell (p := ⟨q, k, none⟩) (fun h => by have := HQ.out; simp at h; omega) _)⟩
          by_cases e : j = k
          · subst e
            rw [nth_set_eq (by rw [HO.out.1]; exact h1), HY.out]
            exact ⟨rfl, hz⟩
          · rw [nth_set_ne (by omega)]
            exact HO.out.2 j (by omega)
    · obtain rfl : k = 1024 := by omega
      have hA := wrdB_of HL.out (fun j hj => (HO.out.2 j hj).2)
      have hO : o = wrdV l := list_ext (by rw [HO.out.1]; simp [wrdV, HL.out]) fun j hj => by
        have hj : j < 1024 := by rw [← HO.out.1]; exact hj
        rw [(HO.out.2 j hj).1, wrdV_nth l (by rw [HL.out]; exact hj)]
      have HA := Lib.hid hA
      have HOo := Lib.hid hO
      clear hA hO
      go_wp2_with (fail)
      go_ret2
      have hq := HQ.out
      subst hq
      exact ⟨U.out.below, .inl ⟨HA.out, rfl, by rw [← HOo.out]; exact B.out⟩⟩
end Go.Proofs.YtfnemolaoijbhacDoor
