/- Latches in memory: words with their parity. -/
import Derived.Test.YtmdjhahafjlebaaGreatDoorQD01
import Derived.Test.YtmdjhahafjlebaaGreatDoorQD16
import Derived.Test.YtmdjhahafjlebaaGreatDoorQD02
import Derived.Test.YtmdjhahafjlebaaGreatDoorQD05
import Derived.Deep.LoopGhost
import Derived.Laws.IdiomCopy
namespace Go.Proofs.YtmdjhahafjlebaaGreatDoor
open Go.RowKit Go.Dio
set_option linter.unusedSimpArgs false
set_option linter.unusedVariables false

/-- Latches at block b, their words at block d. -/
structure LatAt (b d : Nat) (l : List Nat) (w : World) : Prop where
  head : w.heap[b]? = some (.cells #[.slice (some ⟨d, 0, none⟩) l.length l.length] 110 (0, 0))
  data : w.heap[d]? = some (.cells (nums .u64 l) 113 (0, 0))
  ne : b ≠ d
  small : ∀ x ∈ l, x < 2 ^ 64
  len : l.length ≤ 4096
theorem LatAt.upd {b d : Nat} {l : List Nat} {S : List Nat} {w w' : World} (h : LatAt b d l w) (u : Upd S w w') (hb : b ∉ S) (hd : d ∉ S) : LatAt b d l w' :=
  ⟨u.keep h.head hb, u.keep h.data hd, h.ne, h.small, h.len⟩
theorem LatAt.upd0 {b d : Nat} {l : List Nat} {w w' : World} (h : LatAt b d l w) (u : Upd [] w w') : LatAt b d l w' := h.upd u (by simp) (by simp)
theorem LatAt.set {b d : Nat} {l : List Nat} {w : World} (h : LatAt b d l w) (i v : Nat) (hv : v < 2 ^ 64) : LatAt b d (l.set i v) (w.setCell ⟨d, i, none⟩ (.int .u64 (v : Int))) := by
  refine ⟨?_, ?_, h.ne, set_lt h.small hv, by simpa using h.len⟩
  · rw [heap_setCell_ne _ _ h.ne, h.head]; simp
  · rw [heap_setCell_eq h.data, nums_set]
theorem LatAt.blt {b d : Nat} {l : List Nat} {w : World} (h : LatAt b d l w) : b < w.heap.size := lt_of_block h.head
theorem LatAt.dlt {b d : Nat} {l : List Nat} {w : World} (h : LatAt b d l w) : d < w.heap.size := lt_of_block h.data

theorem and_1 {p : Nat} (h : p < 2 ^ 64) : bits .and .u64 (p : Int) 1 = ((p % 2 : Nat) : Int) := by
  have e : bits .and .u64 (p : Int) ((1 : Nat) : Int) = ((p &&& 1 : Nat) : Int) := and64 p 1 h (by decide)
  rw [Nat.and_one_is_mod] at e
  exact e
theorem Of_calls (n : Nat) (w : World) (hn : n < 2 ^ 64) : Calls Tryz.prog 106 #[.int .u64 (n : Int)] w fun e w' => e = .returned (.int .u64 (par n : Int)) ∧ w' = w := by
  have C := Lib.hid (Count_calls n w hn)
  have hp := pop_le n
  have h1 := and_1 (p := pop n) (by omega)
  have hw := wrap64 (n := (pop n : Int)) (by omega) (by omega)
  unfold par
  obtain ⟨q, hq⟩ : ∃ q, q = pop n % 2 := ⟨_, rfl⟩
  rw [← hq] at h1 ⊢
  clear hq
  generalize pop n = p at *
  go_enter Tryz.func106, Tryz.ntmps106
  go_wp2_with (fail)
  refine C.out.mono ?_
  rintro e w1 ⟨rfl, rfl⟩
  go_wp2_with (fail)
  go_ret
  exact ⟨rfl, rfl⟩
theorem PPut_calls (n : Nat) (w : World) (hn : n < 2 ^ 32) : Calls Tryz.prog 76 #[.int .u32 (n : Int)] w fun e w' => e = .returned (.int .u64 (pput n : Int)) ∧ w' = w := by
  have O := Lib.hid (Of_calls n w (by omega))
  have hp := par_le n
  rw [pput, Nat.shiftLeft_eq]
  generalize par n = s at *
  have ho := or_high n s (by omega) (by omega)
  go_enter Tryz.func76, Tryz.ntmps76
  go_wp2_with (fail)
  refine O.out.mono ?_
  rintro e w1 ⟨rfl, rfl⟩
  go_wp2_with (fail)
  go_ret
  exact ⟨rfl, rfl⟩
theorem PGet_calls (n : Nat) (w : World) (hn : n < 2 ^ 64) : Calls Tryz.prog 69 #[.int .u64 (n : Int)] w fun e w' => e = .returned (.tuple #[.int .u32 (pget n : Int), .bool (pok n)]) ∧ w' = w := by
  have O := Lib.hid (Of_calls n w hn)
  have hm : bits .and .u64 (n : Int) 4294967295 = ((pget n : Nat) : Int) := by
    have e : (4294967295 : Int) = ((2 ^ 32 - 1 : Nat) : Int) := by decide
    rw [e, and64 n _ hn (by decide), Nat.and_two_pow_sub_one_eq_mod]; rfl
  have hl := pget_lt n
  have hw := wrap32 (n := ((pget n : Nat) : Int)) (by omega) (by omega)
  generalize pget n = z at *
  have hq : (n : Int) / 8589934592 = ((n / 8589934592 : Nat) : Int) := by simp
  unfold pok
  have hd : n / 8589934592 < 2 ^ 64 := by omega
  generalize n / 8589934592 = q at *
  rcases Nat.eq_zero_or_pos (par n) with h0 | h0
  · rw [h0] at O ⊢
    rw [decide_eq_true rfl, Bool.true_and]
    rcases Nat.eq_zero_or_pos q with h1 | h1
    · subst h1
      go_enter Tryz.func69, Tryz.ntmps69
      go_wp2_with (fail)
      refine O.out.mono ?_
      rintro e w1 ⟨rfl, rfl⟩
      go_wp2_with (fail)
      go_ret2
      exact ⟨rfl, rfl⟩
    · have e1 : ((q : Int) == 0) = false := by rw [beq_eq_false_iff_ne]; omega
      rw [decide_eq_false (by omega)]
      go_enter Tryz.func69, Tryz.ntmps69
      go_wp2_with (fail)
      refine O.out.mono ?_
      rintro e w1 ⟨rfl, rfl⟩
      go_wp2_with (fail)
      go_ret2
      exact ⟨rfl, rfl⟩
  · have e1 : (((par n : Nat) : Int) == 0) = false := by rw [beq_eq_false_iff_ne]; omega
    rw [decide_eq_false (by omega), Bool.false_and]
    generalize par n = p at *
    go_enter Tryz.func69, Tryz.ntmps69
    go_wp2_with (fail)
    refine O.out.mono ?_
    rintro e w1 ⟨rfl, rfl⟩
    go_wp2_with (fail)
    go_ret2
    exact ⟨rfl, rfl⟩

theorem LGet_calls (b d : Nat) (l : List Nat) (i : Nat) (w : World) (h : LatAt b d l w) (hi : i < l.length) :
    Calls Tryz.prog 41 #[.pointer (some ⟨b, 0, none⟩), .int .i64 (i : Int)] w fun e w' => e = .returned (.tuple #[.int .u32 (pget (nth l i) : Int), .bool (pok (nth l i))]) ∧ w' = w := by
  have hsm := nth_lt h.small (by decide) i
  have G := Lib.hid (PGet_calls (nth l i) w hsm)
  have c0 : w.cell? ⟨b, 0, none⟩ = some (.slice (some ⟨d, 0, none⟩) l.length l.length) := by rw [cells_of h.head]; rfl
  have cd : w.cell? ⟨d, i, none⟩ = some (.int .u64 ((nth l i : Nat) : Int)) := by rw [cells_of h.data]; exact nums_nth .u64 l i hi
  have hlen := h.len
  generalize pget (nth l i) = g at *
  generalize pok (nth l i) = k at *
  generalize nth l i = x at *
  generalize l.length = n at *
  clear h
  go_enter Tryz.func41, Tryz.ntmps41
  go_wp2_with (fail)
  refine G.out.mono ?_
  rintro e w1 ⟨rfl, rfl⟩
  go_wp2_with (fail)
  go_ret2
  exact ⟨rfl, rfl⟩
theorem LBits_calls (b d : Nat) (l : List Nat) (w : World) (h : LatAt b d l w) :
    Calls Tryz.prog 37 #[.pointer (some ⟨b, 0, none⟩)] w fun e w' => e = .returned (.int .i64 ((l.length : Int) * 33)) ∧ w' = w := by
  have c0 : w.cell? ⟨b, 0, none⟩ = some (.slice (some ⟨d, 0, none⟩) l.length l.length) := by rw [cells_of h.head]; rfl
  have hlen := h.len
  have hw := wrapi64 (n := (l.length : Int) * 33) (by omega) (by omega)
  clear h
  generalize l.length = n at *
  go_enter Tryz.func37, Tryz.ntmps37
  go_wp2_with (fail)
  go_ret
  exact ⟨rfl, rfl⟩
set_option maxHeartbeats 1000000 in
theorem LPut_calls (b d : Nat) (l : List Nat) (i v : Nat) (w : World) (h : LatAt b d l w) (hi : i < l.length) (hv : v < 2 ^ 32) :
    Calls Tryz.prog 43 #[.pointer (some ⟨b, 0, none⟩), .int .i64 (i : Int), .int .u32 (v : Int)] w fun e w' => e = .returned (.tuple #[]) ∧ LatAt b d (l.set i (pput v)) w' ∧ Upd [d] w w' := by
  have H := Lib.hid h
  have hlen := h.len
  have hx : ∀ x : Near [d] w, x.1.cell? ⟨b, 0, none⟩ = some (.slice (some ⟨d, 0, none⟩) l.length l.length) := fun x => by rw [cells_of (x.2.keep h.head (by simpa using h.ne))]; rfl
  have E := Lib.hid fun w' => PPut_calls v w' hv
  have hel := pput_lt hv
  clear h
  go_enter Tryz.func43, Tryz.ntmps43
  go_wp2_with (fail)
  refine wp_region_plan (fun z => ∃ x : Near [d] w, z = x.1) [([0, 1, 2, 3, 4, 5], 6), ([7], 8)] [] (by kernel_rfl) (by kernel_rfl) (by kernel_rfl) (by kernel_rfl) (fun _ d _ _ _ h => by cases d <;> exact h) ⟨⟨(w).drew, (Upd.refl _ _).drew⟩, rfl⟩ ?_
  refine plan_next ?_
  simp only [opsAt, List.map_cons, List.map_nil, List.getElem?_toArray, List.getElem?_cons_zero, List.getElem?_cons_succ, Option.getD_some]
  repeat (go_big_quiet_step (fail))
  refine wpQuiet_nil ?_
  refine plan_one rfl ?_
  go_wp2_with fail
  refine (E.out _).mono ?_
  rintro e w1 ⟨rfl, rfl⟩
  have U : Upd [] w w.drew := (Upd.refl _ _).drew
  have H1 := Lib.hid (H.out.upd0 U)
  go_wp2_with fail
  refine plan_same ⟨⟨_, (U.mono (by simp))⟩, rfl⟩ ?_
  refine plan_next ?_
  simp only [opsAt, List.map_cons, List.map_nil, List.getElem?_toArray, List.getElem?_cons_zero, List.getElem?_cons_succ, Option.getD_some]
  repeat (go_big_quiet_step (fail))
  refine wpQuiet_nil ?_
  refine plan_one rfl ?_
  have cd : w.drew.cell? ⟨d, i, none⟩ = some (.int .u64 ((nth l i : Nat) : Int)) := by rw [cells_of H1.out.data]; exact nums_nth .u64 l i hi
  have fd : w.drew.frozen? ⟨d, i, none⟩ = false := free_of H1.out.data i
  go_wp2_with fail
  have U2 : Upd [d] w (w.setCell ⟨d, i, none⟩ (.int .u64 (pput v : Int))).drew := (((Upd.refl [d] w).setCell (p := ⟨d, i, none⟩) (by simp) _)).drew
  have H2 := Lib.hid ((H.out.set i (pput v) (by omega)).upd0 (Upd.refl _ _).drew)
  generalize (w.setCell ⟨d, i, none⟩ (.int .u64 (pput v : Int))).drew = w2 at U2 H2 ⊢
  refine plan_same ⟨⟨_, U2⟩, rfl⟩ ?_
  refine plan_last ?_
  simp only [opsAt, List.map_nil]
  refine wpQuiet_nil ?_
  unfold planEnd
  go_wp2_with fail
  go_end0
  exact ⟨rfl, H2.out, U2⟩

/-- Are the parities of some words right? -/
def rightL (l : List Nat) (from_ n : Nat) : Bool := (List.range n).all fun i => pok (nth l (from_ + i))
theorem rightL_true {l : List Nat} {f n : Nat} (h : ∀ i, i < n → pok (nth l (f + i)) = true) : rightL l f n = true := by
  rw [rightL, List.all_eq_true]; intro x hx; exact h x (List.mem_range.1 hx)
theorem rightL_at {l : List Nat} {f n : Nat} (h : rightL l f n = true) (i : Nat) (hi : i < n) : pok (nth l (f + i)) = true := by
  rw [rightL, List.all_eq_true] at h; exact h i (List.mem_range.2 hi)
theorem rightL_false {l : List Nat} {f n i : Nat} (hi : i < n) (h : pok (nth l (f + i)) = false) : rightL l f n = false := by
  rcases hb : rightL l f n with _ | _
  · rfl
  · rw [rightL_at hb i hi] at h; cases h
set_option maxHeartbeats 1000000 in
theorem Right_calls (b d : Nat) (l : List Nat) (f n : Nat) (w : World) (h : LatAt b d l w) (hn : f + n ≤ l.length) :
    Calls Tryz.prog 66 #[.pointer (some ⟨b, 0, none⟩), .int .i64 (f : Int), .int .i64 (n : Int)] w fun e w' => e = .returned (.bool (rightL l f n)) ∧ w' = w := by
  have hlen := h.len
  have G := Lib.hid (fun i (hi : i < n) => LGet_calls b d l (f + i) w h (by omega))
  have RT := Lib.hid (@rightL_true l f n)
  have RF := Lib.hid (fun i => @rightL_false l f n i)
  obtain ⟨R, hR⟩ : ∃ R, R = rightL l f n := ⟨_, rfl⟩
  rw [← hR] at RT RF ⊢
  have hfn : f + n ≤ 4096 := by omega
  clear h hR hlen hn
  go_enter Tryz.func66, Tryz.ntmps66
  go_wp2_with (fail)
  go_loopw [11] (fun v11 wl => ∃ i : Nat, v11 = .int .i64 (i : Int) ∧ i ≤ n ∧ wl = w ∧ Hid (∀ j, j < i → pok (nth l (f + j)) = true)) (fun v11 _ => n - (intOf v11).toNat)
  case atStart => exact ⟨0, rfl, by omega, rfl, Lib.hid (fun j hj => by omega)⟩
  case round =>
    obtain ⟨i, rfl, hi, rfl, HJ⟩ := hrel
    rcases Nat.lt_or_ge i n with hlt | hge
    · have dl : decide ((i : Int) < (n : Int)) = true := decide_eq_true (by omega)
      have C := Lib.hid (G.out i hlt)
      have hs : ((f : Int) + (i : Int)) = ((f + i : Nat) : Int) := by simp
      have hw := wrapi64 (n := ((f + i : Nat) : Int)) (by omega) (by omega)
      cases hk : pok (nth l (f + i))
      · rw [hk] at C
        have R0 := RF.out i hlt hk
        subst R0
        generalize pget (nth l (f + i)) = g at *
        generalize f + i = q at *
        go_wp2_with (fail)
        refine C.out.mono ?_
        rintro e w1 ⟨rfl, rfl⟩
        go_wp2_with (fail)
        go_ret
        exact ⟨rfl, rfl⟩
      · rw [hk] at C
        have J2 : Hid (∀ j, j < i + 1 → pok (nth l (f + j)) = true) := Lib.hid (fun j hj => by
          rcases Nat.lt_or_ge j i with h | h
          · exact HJ.out j h
          · have : j = i := by omega
            subst this; exact hk)
        generalize pget (nth l (f + i)) = g at *
        clear hk
        generalize f + i = q at *
        go_wp2_with (fail)
        refine C.out.mono ?_
        rintro e w1 ⟨rfl, rfl⟩
        go_wp2_with (fail)
        go_roundw
        case measure => simp [intOf]; omega
        case rel => exact ⟨i + 1, by go_num, by omega, by trivial, J2⟩
    · have dl : decide ((i : Int) < (n : Int)) = false := decide_eq_false (by omega)
      have R1 := RT.out (fun j hj => HJ.out j (by omega))
      subst R1
      go_wp2_with (fail)
      go_ret
      exact ⟨rfl, rfl⟩

/-- Bits of latches. -/
def flatB (l : List Nat) (c : Int) : Bool := decide (0 ≤ c ∧ c < 33 * (l.length : Int))
def flatL (l : List Nat) (c : Int) : List Nat := if flatB l c then l.set (c.toNat / 33) (nth l (c.toNat / 33) ^^^ 2 ^ (c.toNat % 33)) else l
theorem flatL_len (l : List Nat) (c : Int) : (flatL l c).length = l.length := by unfold flatL; split <;> simp
set_option maxHeartbeats 1000000 in
theorem LFlip_in (b d : Nat) (l : List Nat) (c : Nat) (w : World) (h : LatAt b d l w) (hc : c < 33 * l.length) :
    Calls Tryz.prog 49 #[.pointer (some ⟨b, 0, none⟩), .int .i64 (c : Int)] w fun e w' => e = .returned (.bool true) ∧ LatAt b d (l.set (c / 33) (nth l (c / 33) ^^^ 2 ^ (c % 33))) w' ∧ Upd [d] w w' := by
  have H := Lib.hid h
  have hlen := h.len
  have B := Lib.hid (LBits_calls b d l w h)
  obtain ⟨k, hk⟩ : ∃ k, k = c / 33 := ⟨_, rfl⟩
  obtain ⟨m, hm⟩ : ∃ m, m = c % 33 := ⟨_, rfl⟩
  rw [← hk, ← hm]
  have hkl : k < l.length := by omega
  have hml : m < 33 := by omega
  have q1 : (c : Int) / 33 = (k : Int) := by omega
  have q2 : (c : Int) % 33 = (m : Int) := by omega
  have q3 : (c : Int).tdiv 33 = (k : Int) := by rw [Int.tdiv_eq_ediv_of_nonneg (by omega)]; exact q1
  have q4 : (c : Int).tmod 33 = (m : Int) := by rw [Int.tmod_eq_emod_of_nonneg (by omega)]; exact q2
  have hlt : decide (((l.length : Int) * 33) ≤ (c : Int)) = false := by rw [decide_eq_false_iff_not]; omega
  have hsm := nth_lt h.small (by decide) k
  have hp := pow64 m (by omega)
  have hx := xor_pow (nth l k) m hsm (by omega)
  have hxl : nth l k ^^^ 2 ^ m < 2 ^ 64 := Nat.xor_lt_two_pow hsm (pow_lt64 (by omega))
  have hy : ∀ x : Near [d] w, x.1.cell? ⟨b, 0, none⟩ = some (.slice (some ⟨d, 0, none⟩) l.length l.length) := fun x => by rw [cells_of (x.2.keep h.head (by simpa using h.ne))]; rfl
  have hz : ∀ x : Near [] w, x.1.cell? ⟨d, k, none⟩ = some (.int .u64 ((nth l k : Nat) : Int)) := fun x => by rw [cells_of (x.2.keep h.data (by simp))]; exact nums_nth .u64 l k hkl
  clear h hk hm
  go_enter Tryz.func49, Tryz.ntmps49
  go_wp2_with (fail)
  refine B.out.mono ?_
  rintro e w1 ⟨rfl, rfl⟩
  go_wp2_with (fail)
  refine wp_region_segs [([], [0, 1, 2, 3, 4, 5, 6, 7, 8, 9, 10, 11, 12]), ([([], 13)], [])] (by kernel_rfl) (by kernel_rfl) (by kernel_rfl) (by kernel_rfl) (fun _ d _ _ _ h => by cases d <;> exact h) ?_
  have hy0 : ∀ x : Near [] w1, x.1.cell? ⟨b, 0, none⟩ = some (.slice (some ⟨d, 0, none⟩) l.length l.length) := fun x => hy ⟨x.1, x.2.mono (by simp)⟩
  refine segs_part (fun z => ∃ x : Near [] w1, z = x.1) ⟨⟨_, (Upd.refl _ _).drew⟩, rfl⟩ ?_
  refine part_last ?_
  simp only [opsAt, List.map_cons, List.map_nil, List.getElem?_toArray, List.getElem?_cons_zero, List.getElem?_cons_succ, Option.getD_some]
  repeat (go_big_quiet_step (fail))
  refine wpQuiet_nil ?_
  unfold partEnd
  refine segs_part (fun z => ∃ x : Near [d] w1, z = x.1) ⟨⟨_, (Upd.refl _ _).drew⟩, rfl⟩ ?_
  refine part_next ?_
  simp only [opsAt, List.map_cons, List.map_nil, List.getElem?_toArray, List.getElem?_cons_zero, List.getElem?_cons_succ, Option.getD_some]
  repeat (go_big_quiet_step (fail))
  refine wpQuiet_nil ?_
  refine part_one rfl ?_
  have H1 := Lib.hid (H.out.upd0 ((Upd.refl [] w1).drew))
  have cd : w1.drew.cell? ⟨d, k, none⟩ = some (.int .u64 ((nth l k : Nat) : Int)) := by rw [cells_of H1.out.data]; exact nums_nth .u64 l k hkl
  have fd : w1.drew.frozen? ⟨d, k, none⟩ = false := free_of H1.out.data k
  go_wp2_with fail
  have U3 : Upd [d] w1 (w1.setCell ⟨d, k, none⟩ (.int .u64 ((nth l k ^^^ 2 ^ m : Nat) : Int))).drew := ((Upd.refl [d] w1).setCell (p := ⟨d, k, none⟩) (by simp) _).drew
  have H3 := Lib.hid ((H.out.set k (nth l k ^^^ 2 ^ m) hxl).upd0 (Upd.refl _ _).drew)
  generalize (w1.setCell ⟨d, k, none⟩ (.int .u64 ((nth l k ^^^ 2 ^ m : Nat) : Int))).drew = w3 at U3 H3 ⊢
  refine part_same ⟨⟨_, U3⟩, rfl⟩ ?_
  refine part_last ?_
  simp only [opsAt, List.map_cons, List.map_nil, List.getElem?_toArray, List.getElem?_cons_zero, List.getElem?_cons_succ, Option.getD_some]
  repeat (go_big_quiet_step (fail))
  refine wpQuiet_nil ?_
  unfold partEnd
  refine segs_end ?_
  go_wp2_with (fail)
  go_ret
  exact ⟨rfl, H3.out, U3⟩
theorem LFlip_out (b d : Nat) (l : List Nat) (c : Int) (w : World) (h : LatAt b d l w) (hc : flatB l c = false) :
    Calls Tryz.prog 49 #[.pointer (some ⟨b, 0, none⟩), .int .i64 c] w fun e w' => e = .returned (.bool false) ∧ w' = w := by
  have B := Lib.hid (LBits_calls b d l w h)
  rw [flatB, decide_eq_false_iff_not] at hc
  clear h
  generalize l.length = n at *
  by_cases h0 : c < 0
  · have d0 : decide (c < 0) = true := decide_eq_true h0
    go_enter Tryz.func49, Tryz.ntmps49
    go_wp2_with (fail)
    go_ret
    exact ⟨rfl, rfl⟩
  · have d0 : decide (c < 0) = false := decide_eq_false h0
    have d1 : decide (((n : Int) * 33) ≤ c) = true := decide_eq_true (by omega)
    go_enter Tryz.func49, Tryz.ntmps49
    go_wp2_with (fail)
    refine B.out.mono ?_
    rintro e w1 ⟨rfl, rfl⟩
    go_wp2_with (fail)
    go_ret
    exact ⟨rfl, rfl⟩
theorem LFlip_calls (b d : Nat) (l : List Nat) (c : Int) (w : World) (h : LatAt b d l w) :
    Calls Tryz.prog 49 #[.pointer (some ⟨b, 0, none⟩), .int .i64 c] w fun e w' => e = .returned (.bool (flatB l c)) ∧ LatAt b d (flatL l c) w' ∧ Upd [d] w w' := by
  cases hc : flatB l c
  · rw [flatL, hc]
    exact (LFlip_out b d l c w h hc).mono fun e w' ⟨h1, h2⟩ => by subst h2; exact ⟨h1, h, Upd.refl _ _⟩
  · have h2 := hc
    rw [flatB, decide_eq_true_iff] at h2
    obtain ⟨k, rfl⟩ : ∃ k : Nat, c = (k : Int) := ⟨c.toNat, by omega⟩
    rw [flatL, hc, if_pos rfl, Int.toNat_natCast]
    exact LFlip_in b d l k w h (by omega)

theorem info_lat : (Tryz.prog.info? 113).map (fun i => (i.zero, i.size)) = some (some (.int .u64 0), 1) := by kernel_rfl
theorem run_clear_nums {w : World} {d n c ty : Nat} {l : List Nat} (hd : w.heap[d]? = some (.cells (nums .u64 l) 113 (0, 0))) (hn : n = l.length) (h0 : 0 < n) :
    (Builtin.clear_ #[106] ty #[.slice (some ⟨d, 0, none⟩) n c]).run Tryz.prog w = .ok (.tuple #[]) (w.setCells d 0 (nums .u64 (List.replicate n 0)).toList) := by
  obtain ⟨m, rfl⟩ : ∃ m, n = m + 1 := ⟨n - 1, by omega⟩
  have hq := info_lat
  cases hi : Tryz.prog.info? 113 with
  | none => simp [hi] at hq
  | some i =>
    simp [hi] at hq
    have hz : (Builtin.zeroCells #[.int .u64 0] (m + 1)) = nums .u64 (List.replicate (m + 1) 0) := by
      apply Array.ext
      · simp [Builtin.zeroCells, nums]
      · intro i h1 h2
        simp [Builtin.zeroCells, nums, Nat.mod_one]
    have hlen : (nums .u64 (List.replicate (m + 1) 0)).toList.length = m + 1 := by simp [nums]
    have hs := run_storeCells_cells (P := Tryz.prog) d 0 (nums .u64 (List.replicate (m + 1) 0)).toList 0 w (fun j hj => by
        rw [hlen] at hj
        rw [cells_of hd]
        have := nums_nth .u64 l (0 + 0 + j) (by omega)
        rw [this]; rfl) (fun j hj => free_of hd _) (fun v hv => by
        have h1 := nums_one .u64 (List.replicate (m + 1) 0)
        rw [Array.all_eq_true'] at h1
        exact h1 v (by simpa using hv))
    simp [Builtin.clear_, run_underlying Tryz.underlying106, zeroValue, typeInfo, hi, hq.1, Value.cells, hz, hs]
theorem L_clear {ops : Array Oper} {rest : List Oper} {o : Oper} {a : Act} {w : World} {Q : Exit → Act → World → Prop} (s : Operand)
    (ho : o.op = .call { callee := .builtin .clear, args := #[s], argTypes := #[106] }) (hw : Region.wanted o (yielded ops a.tmps) = true)
    (d n c : Nat) (hs : a.eval s = .slice (some ⟨d, 0, none⟩) n c) (l : List Nat) (hd : w.heap[d]? = some (.cells (nums .u64 l) 113 (0, 0))) (hn : n = l.length) (h0 : 0 < n)
    (h : ∀ w', w'.heap[d]? = some (.cells (nums .u64 (List.replicate n 0)) 113 (0, 0)) → Upd [d] w w' → wpList Tryz.prog ops Q rest (a.put o.dst (.tuple #[])) w') :
    wpList Tryz.prog ops Q (o :: rest) a w := by
  have hrun := run_clear_nums (c := c) (ty := o.type) hd hn h0
  have hd2 : w.heap[d]? = some (.cells (nums .u64 l).toList.toArray 113 (0, 0)) := by simpa using hd
  obtain ⟨k1, k2, _⟩ := heap_setCells d 113 (nums .u64 (List.replicate n 0)).toList 0 (nums .u64 l).toList w hd2 (by simp [nums]; omega)
  rw [spl_all (by simp [nums]; omega)] at k1
  refine wpList_step fun K hK => ?_
  rw [if_pos hw]
  unfold Oper.wp execOp
  simp only [ho, resolve, invoke, builtin, Sem.run_bind, Sem.run_pure, Result.andThen_ok, List.map_toArray, List.map_cons, List.map_nil, hs, hrun]
  exact hK _ _ (h _ (by simpa using k1) k2)
theorem LClear_calls (b d : Nat) (l : List Nat) (w : World) (h : LatAt b d l w) (h0 : 0 < l.length) :
    Calls Tryz.prog 52 #[.pointer (some ⟨b, 0, none⟩)] w fun e w' => e = .returned (.tuple #[]) ∧ LatAt b d (List.replicate l.length 0) w' ∧ Upd [d] w w' := by
  have H := Lib.hid h
  have c0 : w.cell? ⟨b, 0, none⟩ = some (.slice (some ⟨d, 0, none⟩) l.length l.length) := by rw [cells_of h.head]; rfl
  clear h
  obtain ⟨n, hn⟩ : ∃ n, n = l.length := ⟨_, rfl⟩
  have HN := Lib.hid hn
  rw [← hn] at c0 h0 ⊢
  clear hn
  go_enter Tryz.func52, Tryz.ntmps52
  go_wp2_with (first
    | go_skip
    | (refine L_clear (.tmp 5) rfl (by kernel_rfl) d n n rfl l H.out.data HN.out h0 ?_))
  intro w1 k1 u1
  go_wp2_with (fail)
  go_end0
  refine ⟨rfl, ⟨?_, by simpa using k1, H.out.ne, fun x hx => ?_, ?_⟩, u1⟩
  · rw [u1.keep H.out.head (by simpa using H.out.ne), List.length_replicate, HN.out]
  · obtain rfl := List.eq_of_mem_replicate hx; decide
  · rw [List.length_replicate, HN.out]; exact H.out.len
theorem LNew_calls (N : Nat) (w : World) (hN : N ≤ 4096) :
    Calls Tryz.prog 34 #[.int .i64 (N : Int)] w fun e w' => e = .returned (.pointer (some ⟨w.heap.size + 1, 0, none⟩)) ∧ LatAt (w.heap.size + 1) w.heap.size (List.replicate N 0) w' ∧ Upd [] w w' ∧ w'.heap.size = w.heap.size + 2 := by
  obtain ⟨i0, hi, hz0, hz1, hz2⟩ := info_parts info_u64
  have hmk : ∀ u : World, (Instr.makeSlice 106 (.int .i64 (N : Int)) (.int .i64 (N : Int))).run Tryz.prog u =
      .ok (.slice (some ⟨u.heap.size, 0, none⟩) N N) (u.alloc (.cells (nums .u64 (List.replicate N 0)) 113)) := fun u => by
    have h := run_make (P := Tryz.prog) u 106 113 i0 (.int .u64 0) Tryz.underlying106 hi hz0 .i64 .i64 (N : Int) (N : Int) (by omega) (Int.le_refl _) (by rw [hz2]; omega) (by omega)
    rw [Int.toNat_natCast] at h
    rw [← made_nums]
    simpa [hz1, Value.cells] using h
  go_enter Tryz.func34, Tryz.ntmps34
  go_wp2_with (fail)
  go_ret
  have hNs : (List.replicate N 0).length = N := List.length_replicate ..
  refine ⟨rfl, ⟨?_, ?_, by omega, ?_, ?_⟩, ((Upd.refl _ _).alloc _).alloc _, by simp⟩
  · rw [hNs]; simpa using Go.heap_alloc_last (w.alloc (.cells (nums .u64 (List.replicate N 0)) 113)) (.cells #[.slice (some ⟨w.heap.size, 0, none⟩) N N] 110)
  · exact heap_old (Go.heap_alloc_last _ _) _
  · intro x hx; obtain rfl := List.eq_of_mem_replicate hx; decide
  · rw [hNs]; omega
end Go.Proofs.YtmdjhahafjlebaaGreatDoor
