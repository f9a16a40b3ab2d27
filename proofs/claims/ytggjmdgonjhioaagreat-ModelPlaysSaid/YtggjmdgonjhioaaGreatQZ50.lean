/- The reference's machine: a new one. -/
import Derived.Test.YtggjmdgonjhioaaGreatQZ46
import Derived.Test.YtggjmdgonjhioaaGreatQZ45
import Derived.Test.YtggjmdgonjhioaaGreatQZ49
namespace Go.Proofs.YtggjmdgonjhioaaGreat
open Go.RowKit Go.Dio
set_option linter.unusedSimpArgs false
set_option linter.unusedVariables false

set_option maxHeartbeats 1000000 in
theorem rnew_long (A : Option Addr) (n c : Nat) (z : World) (h : 1024 < n) :
    Calls Tryz.prog 11 #[.slice A n c] z fun e w' => e = .returned (.pointer none) ∧ w' = z := by
  have hd : decide ((1024 : Int) < (n : Int)) = true := decide_eq_true (by omega)
  go_enter Tryz.func11, Tryz.ntmps11
  go_wp2_with (fail)
  go_ret
  exact ⟨rfl, rfl⟩
def Z43 : List Value := stL ⟨0, List.replicate 32 0, List.replicate 5 0, [], [], false, 0, 0⟩ (.slice none 0 0) ++ [.slice none 0 0, .bool false, .int .u32 0, .int .i64 0]
theorem Z43_set (gb : Nat) : Z43.set 38 (.slice (some ⟨gb, 0, none⟩) 1024 1024) = mcells ⟨0, List.replicate 32 0, List.replicate 5 0, [], [], false, 0, 0⟩ gb (.slice none 0 0) := rfl
set_option maxRecDepth 20000 in
set_option maxHeartbeats 4000000 in
theorem rnew_calls (A : Option Addr) (ns : List Nat) (c : Nat) (zz : World) (hA : NumsAt zz .u32 A ns) (hl : ns.length ≤ 1024) :
    Calls Tryz.prog 11 #[.slice A ns.length c] zz fun e z' => e = .returned (.pointer (some ⟨zz.heap.size, 0, none⟩)) ∧ RfAt zz.heap.size (zz.heap.size + 1) (zz.heap.size + 2) (.slice none 0 0) (newS ns) z' ∧ Upd [] zz z' := by
  obtain ⟨Z, hZ, hmk0⟩ := ex_rep 1024 (by decide)
  have hmk : ∀ u : World, (Instr.makeSlice 23 (.int .i64 1024) (.int .i64 1024)).run Tryz.prog u = .ok (.slice (some ⟨u.heap.size, 0, none⟩) 1024 1024) (u.alloc (.cells (nums .u32 Z) 36)) := hmk0
  have HZL := Lib.hid hZ
  have HA := Lib.hid hA
  clear hmk0 hZ hA
  obtain ⟨N, hN⟩ : ∃ N, N = ns.length := ⟨_, rfl⟩
  rw [← hN]
  have HN := Lib.hid hN
  rw [← hN] at hl
  have hd : decide ((1024 : Int) < (N : Int)) = false := decide_eq_false (by omega)
  clear hN
  have B0 := Lib.hid (heap_old (hl1 zz (.cells Z43.toArray 65)) (.cells (nums .u32 Z) 36))
  have G0 := Lib.hid (hl2 zz (.cells Z43.toArray 65) (.cells (nums .u32 Z) 36))
  have U0 := Lib.hid (((Upd.refl [] zz).alloc (.cells Z43.toArray 65)).alloc (.cells (nums .u32 Z) 36))
  have hns : ns.length ≤ 1024 := by rw [← HN.out]; exact hl
  go_enter Tryz.func11, Tryz.ntmps11
  go_wp2_with (first
    | go_skip
    | ((with_reducible refine at_st 13 ?_); refine L_store_one 23 (.tmp 13) (.tmp 10) rfl (by kernel_rfl) zz.heap.size 38 rfl Z43 65 B0.out (.slice (some ⟨zz.heap.size + 1, 0, none⟩) 1024 1024) rfl rfl rfl (by kernel_rfl) (by decide) ?_))
  intro w1 b1 u1 z1
  rw [Z43_set] at b1
  have B1 := Lib.hid b1
  have G1 := Lib.hid (u1.keep G0.out (by simp))
  have U1 := Lib.hid (U0.out.then u1 (fun x hx hlt => by simp at hx; omega))
  have A1 := Lib.hid (HA.out.of_upd U1.out)
  have c38 : w1.cell? ⟨zz.heap.size, 38, none⟩ = some (.slice (some ⟨zz.heap.size + 1, 0, none⟩) 1024 1024) := by rw [cells_of b1]; rfl
  clear b1 u1 z1 B0 G0 U0
  go_wp2_with (first | go_skip | ((with_reducible refine at_op 20 ?_); refine L_cpy2 rfl (.tmp 18) (.tmp 19) rfl (zz.heap.size + 1) 1024 Z HZL.out rfl _ _ _ ns rfl HN.out.symm A1.out G1.out hns ?_))
  intro w' g1 u1
  have G2 := Lib.hid g1
  have U2 := Lib.hid u1
  have hs1 : zz.heap.size + 1 < w'.heap.size := lt_of_block g1
  clear g1 u1
  go_wp2_with (fail)
  go_ret
  refine ⟨rfl, ⟨U2.out.keep B1.out (by simp), G2.out, ⟨rfl, .inl ⟨rfl, rfl⟩⟩, by omega, by omega, by omega⟩, ?_⟩
  exact U1.out.then U2.out (fun x hx hlt => by simp at hx; omega)
end Go.Proofs.YtggjmdgonjhioaaGreat

namespace Go.Proofs.YtggjmdgonjhioaaGreat
open Go.RowKit Go.Dio
set_option linter.unusedSimpArgs false
set_option linter.unusedVariables false

theorem rstep_calls (rb gb base : Nat) (tv : Value) (s : MSt) (zz : World) (M : RfAt rb gb base tv s zz) (iv : MInv s) (hb : base ≤ zz.heap.size) (ht : s.trace.length ≤ 4000) (hsn : s.steps ≤ 1000000) :
    Calls Tryz.prog 13 #[.pointer (some ⟨rb, 0, none⟩)] zz fun e z' => e = .returned (.tuple #[.agg (retL (retP s)).toArray, .bool (!s.halted)]) ∧ RfS rb gb base tv (stepP s) zz z' := by
  cases hh : s.halted with
  | true =>
    refine (rstep_halted rb gb base tv s zz M iv.ok hh).mono ?_
    rintro e z' ⟨rfl, u⟩
    have e1 : retP s = ⟨0, 0, 0, false, 0, 0, 0⟩ := by unfold retP; rw [if_pos hh]
    have e2 : stepP s = s := by unfold stepP; rw [if_pos hh]
    rw [e1, e2]
    exact ⟨rfl, tv, M.upd0 u, u.mono (fun x hx _ => by simp at hx), fun g hg => .inl hg⟩
  | false =>
    refine (rstep_runs rb gb base tv s zz M iv hh hb ht hsn).mono ?_
    rintro e z' ⟨rfl, u⟩
    have e1 : retP s = (madeP s).r := by unfold retP; rw [if_neg (by rw [hh]; decide)]
    rw [e1]
    exact ⟨rfl, u⟩
structure Bo (zz : World) (m1 g1 m2 g2 B : Nat) (sa sb : MSt) (w : World) : Prop where
  ex : ∃ ta tb, MachAt m1 g1 B ta sa w ∧ RfAt m2 g2 B tb sb w ∧ ∀ g, ta.ownBlock = some g → tb.ownBlock = some g → False
  upd : Upd [] zz w
  le : B ≤ w.heap.size
theorem Bo.upd0 {zz : World} {m1 g1 m2 g2 B : Nat} {sa sb : MSt} {w w' : World} (h : Bo zz m1 g1 m2 g2 B sa sb w) (u : Upd [] w w') : Bo zz m1 g1 m2 g2 B sa sb w' := by
  obtain ⟨⟨ta, tb, ma, mb, hs⟩, a, b⟩ := h
  exact ⟨⟨ta, tb, ma.upd0 u, mb.upd0 u, hs⟩, a.trans u, Nat.le_trans b u.size⟩
theorem Bo.fst {zz : World} {m1 g1 m2 g2 B : Nat} {sa sb : MSt} {w : World} (k : Blk zz m1 g1 m2 g2 B) (h : Bo zz m1 g1 m2 g2 B sa sb w) : One zz m1 g1 B sa w := by
  obtain ⟨⟨ta, tb, ma, mb, hs⟩, a, b⟩ := h
  exact ⟨⟨ta, ma⟩, a, b, k.o.1, k.o.2.1, k.o.2.2.2.2⟩
theorem Bo.stB {zz : World} {m1 g1 m2 g2 B : Nat} {sa sb sb' : MSt} {w w' : World} {ta tb : Value} (k : Blk zz m1 g1 m2 g2 B) (h : Bo zz m1 g1 m2 g2 B sa sb w) (ma : MachAt m1 g1 B ta sa w) (mb : RfAt m2 g2 B tb sb w)
    (hs : ∀ g, ta.ownBlock = some g → tb.ownBlock = some g → False) (r : RfS m2 g2 B tb sb' w w') : Bo zz m1 g1 m2 g2 B sa sb' w' := by
  obtain ⟨_, a, b⟩ := h
  have hk := k.d
  have hko := k.o
  have ht1 := ma.top
  have ht2 := mb.top
  have L1 : ∀ g, ta.ownBlock = some g → B ≤ g ∧ g < w.heap.size := fun g hg => World.ownsRow.lt ma.own g hg
  have L2 : ∀ g, tb.ownBlock = some g → B ≤ g ∧ g < w.heap.size := fun g hg => World.ownsRow.lt mb.own g hg
  obtain ⟨tb', mb', u, o⟩ := r
  have hin : ∀ x, x ∈ m2 :: g2 :: tb.ownBlock.toList → x = m2 ∨ x = g2 ∨ tb.ownBlock = some x := fun x hx => by
    simpa only [List.mem_cons, Option.mem_toList] using hx
  refine ⟨⟨ta, tb', ma.upd u (fun h => ?_) (fun h => ?_) (fun g hg h => ?_), mb', fun g h1 h2 => ?_⟩, a.then u (fun x hx hlt => ?_), Nat.le_trans b u.size⟩
  · rcases hin _ h with h | h | h
    · omega
    · omega
    · have := L2 _ h; omega
  · rcases hin _ h with h | h | h
    · omega
    · omega
    · have := L2 _ h; omega
  · have := L1 g hg
    rcases hin _ h with h | h | h
    · omega
    · omega
    · exact hs g hg h
  · rcases o g h2 with h | h
    · exact hs g h1 h
    · have := L1 g h1; omega
  · rcases hin _ hx with h | h | h
    · omega
    · omega
    · have := L2 _ h; omega
theorem Bo.stA {zz : World} {m1 g1 m2 g2 B : Nat} {sa sb sa' : MSt} {w w' : World} {ta tb : Value} (k : Blk zz m1 g1 m2 g2 B) (h : Bo zz m1 g1 m2 g2 B sa sb w) (ma : MachAt m1 g1 B ta sa w) (mb : RfAt m2 g2 B tb sb w)
    (hs : ∀ g, ta.ownBlock = some g → tb.ownBlock = some g → False) (r : StR m1 g1 B ta sa' w w') : Bo zz m1 g1 m2 g2 B sa' sb w' := by
  obtain ⟨_, a, b⟩ := h
  have hk := k.d
  have hko := k.o
  have ht1 := ma.top
  have ht2 := mb.top
  have L1 : ∀ g, ta.ownBlock = some g → B ≤ g ∧ g < w.heap.size := fun g hg => World.ownsRow.lt ma.own g hg
  have L2 : ∀ g, tb.ownBlock = some g → B ≤ g ∧ g < w.heap.size := fun g hg => World.ownsRow.lt mb.own g hg
  obtain ⟨ta', ma', u, o⟩ := r
  have hin : ∀ x, x ∈ m1 :: g1 :: ta.ownBlock.toList → x = m1 ∨ x = g1 ∨ ta.ownBlock = some x := fun x hx => by
    simpa only [List.mem_cons, Option.mem_toList] using hx
  refine ⟨⟨ta', tb, ma', mb.upd u (fun h => ?_) (fun h => ?_) (fun g hg h => ?_), fun g h1 h2 => ?_⟩, a.then u (fun x hx hlt => ?_), Nat.le_trans b u.size⟩
  · rcases hin _ h with h | h | h
    · omega
    · omega
    · have := L1 _ h; omega
  · rcases hin _ h with h | h | h
    · omega
    · omega
    · have := L1 _ h; omega
  · have := L2 g hg
    rcases hin _ h with h | h | h
    · omega
    · omega
    · exact hs g h hg
  · rcases o g h1 with h | h
    · exact hs g h h2
    · have := L2 g h2; omega
  · rcases hin _ hx with h | h | h
    · omega
    · omega
    · have := L1 _ h; omega
theorem bo_stepA {zz : World} {m1 g1 m2 g2 B : Nat} {sa sb : MSt} {w : World} (k : Blk zz m1 g1 m2 g2 B) (h : Bo zz m1 g1 m2 g2 B sa sb w) (iv : MInv sa) (ht : sa.trace.length ≤ 4000) (hsn : sa.steps ≤ 1000000) :
    Calls Tryz.prog 12 #[.pointer (some ⟨m1, 0, none⟩)] w fun e z' => e = .returned (.tuple #[.agg (retL (retP sa)).toArray, .bool (!sa.halted)]) ∧ Bo zz m1 g1 m2 g2 B (stepP sa) sb z' := by
  obtain ⟨ta, tb, ma, mb, hs⟩ := h.ex
  refine (step_calls m1 g1 B ta sa w ma iv h.le ht hsn).mono ?_
  rintro e z' ⟨rfl, r⟩
  exact ⟨rfl, h.stA k ma mb hs r⟩
theorem bo_stepB {zz : World} {m1 g1 m2 g2 B : Nat} {sa sb : MSt} {w : World} (k : Blk zz m1 g1 m2 g2 B) (h : Bo zz m1 g1 m2 g2 B sa sb w) (iv : MInv sb) (ht : sb.trace.length ≤ 4000) (hsn : sb.steps ≤ 1000000) :
    Calls Tryz.prog 13 #[.pointer (some ⟨m2, 0, none⟩)] w fun e z' => e = .returned (.tuple #[.agg (retL (retP sb)).toArray, .bool (!sb.halted)]) ∧ Bo zz m1 g1 m2 g2 B sa (stepP sb) z' := by
  obtain ⟨ta, tb, ma, mb, hs⟩ := h.ex
  refine (rstep_calls m2 g2 B tb sb w mb iv h.le ht hsn).mono ?_
  rintro e z' ⟨rfl, r⟩
  exact ⟨rfl, h.stB k ma mb hs r⟩
/-- A new one of each. -/
theorem bo_two {zz w1 w2 w3 : World} (ns : List Nat) (h0 : Upd [] zz w1) (M1 : MachAt (w1.heap.size + 1) w1.heap.size (w1.heap.size + 2) (.slice none 0 0) (newS ns) w2) (h1 : w1.heap.size + 1 < w2.heap.size) (u1 : Upd [] w1 w2)
    (M2 : RfAt w2.heap.size (w2.heap.size + 1) (w2.heap.size + 2) (.slice none 0 0) (newS ns) w3) (h2 : w2.heap.size + 1 < w3.heap.size) (u2 : Upd [] w2 w3) :
    Blk zz (w1.heap.size + 1) w1.heap.size w2.heap.size (w2.heap.size + 1) w3.heap.size ∧ Bo zz (w1.heap.size + 1) w1.heap.size w2.heap.size (w2.heap.size + 1) w3.heap.size (newS ns) (newS ns) w3 := by
  have hz := h0.size
  have M1' := M1.upd0 u2
  refine ⟨⟨by omega, by omega, by omega, by omega, by omega, by omega⟩, ⟨⟨.slice none 0 0, .slice none 0 0, ⟨M1'.cell, M1'.mem, ⟨rfl, .inl ⟨rfl, rfl⟩⟩, M1'.ne, by omega, by omega⟩, ⟨M2.cell, M2.mem, ⟨rfl, .inl ⟨rfl, rfl⟩⟩, M2.ne, by omega, by omega⟩, fun g h => by cases h⟩, (h0.trans u1).trans u2, Nat.le_refl _⟩⟩
end Go.Proofs.YtggjmdgonjhioaaGreat
