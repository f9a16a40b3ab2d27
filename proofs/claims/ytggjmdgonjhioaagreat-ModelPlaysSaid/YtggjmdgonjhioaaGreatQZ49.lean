/- A plain machine of the call's own; two of them, side by side. -/
import Derived.Test.YtggjmdgonjhioaaGreatQZ45
import Derived.Test.YtggjmdgonjhioaaGreatQZ48
namespace Go.Proofs.YtggjmdgonjhioaaGreat
open Go.RowKit Go.Dio
set_option linter.unusedSimpArgs false
set_option linter.unusedVariables false

structure One (zz : World) (mb gb B : Nat) (s : MSt) (w : World) : Prop where
  ex : ∃ tv, MachAt mb gb B tv s w
  upd : Upd [] zz w
  le : B ≤ w.heap.size
  old : zz.heap.size ≤ mb ∧ zz.heap.size ≤ gb ∧ zz.heap.size ≤ B
theorem One.upd0 {zz : World} {mb gb B : Nat} {s : MSt} {w w' : World} (h : One zz mb gb B s w) (u : Upd [] w w') : One zz mb gb B s w' := by
  obtain ⟨⟨tv, m⟩, a, b, c⟩ := h
  exact ⟨⟨tv, m.upd0 u⟩, a.trans u, Nat.le_trans b u.size, c⟩
theorem One.stR {zz : World} {mb gb B : Nat} {s s' : MSt} {w w' : World} {tv : Value} (h : One zz mb gb B s w) (m : MachAt mb gb B tv s w) (r : StR mb gb B tv s' w w') : One zz mb gb B s' w' := by
  obtain ⟨_, a, b, c⟩ := h
  obtain ⟨tv', m', u, _⟩ := r
  refine ⟨⟨tv', m'⟩, a.then u (fun x hx hlt => ?_), Nat.le_trans b u.size, c⟩
  simp only [List.mem_cons, Option.mem_toList] at hx
  rcases hx with h | h | h
  · omega
  · omega
  · have := (World.ownsRow.lt m.own x h).1; omega
theorem one_step {zz : World} {mb gb B : Nat} {s : MSt} {w : World} (h : One zz mb gb B s w) (iv : MInv s) (ht : s.trace.length ≤ 4000) (hsn : s.steps ≤ 1000000) :
    Calls Tryz.prog 12 #[.pointer (some ⟨mb, 0, none⟩)] w fun e z' => e = .returned (.tuple #[.agg (retL (retP s)).toArray, .bool (!s.halted)]) ∧ One zz mb gb B (stepP s) z' := by
  obtain ⟨tv, m⟩ := h.ex
  refine (step_calls mb gb B tv s w m iv h.le ht hsn).mono ?_
  rintro e z' ⟨rfl, r⟩
  exact ⟨rfl, h.stR m r⟩
theorem one_stay {zz : World} {mb gb B : Nat} {s : MSt} {w : World} (h : One zz mb gb B s w) (ok : MOk s) (hh : s.halted = true) :
    Calls Tryz.prog 12 #[.pointer (some ⟨mb, 0, none⟩)] w fun e z' => e = .returned (.tuple #[.agg #[.int .u32 0, .int .u32 0, .int .i64 0, .bool false, .int .u32 0, .int .u32 0, .int .i64 0], .bool false]) ∧ Upd [] w z' := by
  obtain ⟨tv, m⟩ := h.ex
  exact step_halted mb gb B tv s w m ok hh
set_option maxHeartbeats 1000000 in
theorem one_run_stay {zz : World} {mb gb B : Nat} {s : MSt} {w : World} (h : One zz mb gb B s w) (ok : MOk s) (hh : s.halted = true) (n : Nat) :
    Calls Tryz.prog 23 #[.pointer (some ⟨mb, 0, none⟩), .int .i64 (n : Int)] w fun e z' => e = .returned (.int .i64 0) ∧ Upd [] w z' := by
  have ST := Lib.hid (fun w' (u : Upd [] w w') => one_stay (h.upd0 u) ok hh)
  clear h ok hh
  go_enter Tryz.func23, Tryz.ntmps23
  go_wp2_with (fail)
  go_step3
  go_wp2_with (fail)
  go_step3
  go_wp2_with (fail)
  go_loopw [5] (fun v5 wl => v5 = .int .i64 0 ∧ Hid (Upd [] w wl)) (fun v5 _ => 0)
  case atStart => exact ⟨rfl, Lib.hid (Upd.refl _ _)⟩
  case round =>
    obtain ⟨rfl, HU⟩ := hrel
    rcases Nat.eq_zero_or_pos n with h0 | h0
    · subst h0
      go_wp2_with (fail)
      try rw [Exit.noGoto_ret]
      go_ret
      exact ⟨rfl, HU.out⟩
    · have hd : decide ((0 : Int) < (n : Int)) = true := decide_eq_true (by omega)
      have hd' : 0 < n := h0
      go_wp2_with (fail)
      refine (ST.out _ HU.out).mono ?_
      rintro e z1 ⟨rfl, u⟩
      have U1 := Lib.hid (HU.out.trans u)
      clear u HU
      go_wp2_with (fail)
      try rw [Exit.noGoto_ret]
      go_ret
      exact ⟨rfl, U1.out.alloc _⟩
theorem one_run {zz : World} {mb gb B : Nat} {s : MSt} {w : World} (h : One zz mb gb B s w) (iv : MInv s) (n : Nat) (ht : s.trace.length + n ≤ 4000) (hsn : s.steps + n ≤ 1000000) :
    Calls Tryz.prog 23 #[.pointer (some ⟨mb, 0, none⟩), .int .i64 (n : Int)] w fun e z' => ∃ k : Nat, e = .returned (.int .i64 (k : Int)) ∧ k ≤ n ∧ (∀ j, j < k → (itS s j).halted = false) ∧ (k = n ∨ (itS s k).halted = true) ∧ One zz mb gb B (itS s k) z' := by
  obtain ⟨tv, m⟩ := h.ex
  refine (run_calls mb gb B tv s w m iv n h.le ht hsn).mono ?_
  rintro e z' ⟨k, rfl, hk, hj, he, r⟩
  exact ⟨k, rfl, hk, hj, he, h.stR m r⟩
theorem one_state {zz : World} {mb gb B : Nat} {s : MSt} {w : World} (h : One zz mb gb B s w) (ok : MOk s) :
    Calls Tryz.prog 27 #[.pointer (some ⟨mb, 0, none⟩)] w fun e z' => ∃ A cap, e = .returned (.agg (StV.arr ⟨s.pc, s.regs, s.csrs, A, s.mem, cap⟩)) ∧ StV.OK ⟨s.pc, s.regs, s.csrs, A, s.mem, cap⟩ z' ∧ Upd [] w z' := by
  obtain ⟨tv, m⟩ := h.ex
  exact state_calls mb gb B tv s w m ok
theorem one_trace {zz : World} {mb gb B : Nat} {s : MSt} {w : World} (h : One zz mb gb B s w) (ok : MOk s) (ht : s.trace.length ≤ 5000) :
    Calls Tryz.prog 25 #[.pointer (some ⟨mb, 0, none⟩)] w fun e z' => ∃ A cap, e = .returned (.slice A s.trace.length cap) ∧ NumsAt z' .u32 A s.trace ∧ Upd [] w z' ∧ s.trace.length ≤ cap ∧ cap ≤ 9223372036854775807 := by
  obtain ⟨tv, m⟩ := h.ex
  exact trace_calls mb gb B tv s w m ok ht
theorem one_steps {zz : World} {mb gb B : Nat} {s : MSt} {w : World} (h : One zz mb gb B s w) (ok : MOk s) :
    Calls Tryz.prog 26 #[.pointer (some ⟨mb, 0, none⟩)] w fun e z' => e = .returned (.int .i64 (s.steps : Int)) ∧ z' = w := by
  obtain ⟨tv, m⟩ := h.ex
  exact steps_calls mb gb B tv s w m ok
theorem one_halted {zz : World} {mb gb B : Nat} {s : MSt} {w : World} (h : One zz mb gb B s w) (ok : MOk s) :
    Calls Tryz.prog 24 #[.pointer (some ⟨mb, 0, none⟩)] w fun e z' => e = .returned (.tuple #[.int .u32 (s.code : Int), .bool s.halted]) ∧ Upd [] w z' := by
  obtain ⟨tv, m⟩ := h.ex
  exact halted_calls mb gb B tv s w m ok
theorem one_new {zz w : World} (u0 : Upd [] zz w) (A : Option Addr) (ns : List Nat) (n c : Nat) (hn : n = ns.length) (hA : NumsAt w .u32 A ns) (hl : n ≤ 1024) :
    Calls Tryz.prog 10 #[.slice A n c] w fun e z' => ∃ mb gb B, e = .returned (.tuple #[.pointer (some ⟨mb, 0, none⟩), .int .i64 0]) ∧ One zz mb gb B (newS ns) z' ∧ Upd [] w z' := by
  subst hn
  refine (mnew_calls A ns c w hA hl).mono ?_
  rintro e z' ⟨rfl, m, u⟩
  have h1 := lt_of_block m.cell
  have h2 := u0.size
  exact ⟨w.heap.size + 1, w.heap.size, w.heap.size + 2, rfl, ⟨⟨_, m⟩, u0.trans u, by omega, by omega, by omega, by omega⟩, u⟩

structure Blk (zz : World) (m1 g1 m2 g2 B : Nat) : Prop where
  d : m1 ≠ m2 ∧ m1 ≠ g2 ∧ g1 ≠ m2 ∧ g1 ≠ g2
  o : zz.heap.size ≤ m1 ∧ zz.heap.size ≤ g1 ∧ zz.heap.size ≤ m2 ∧ zz.heap.size ≤ g2 ∧ zz.heap.size ≤ B
structure Pr (zz : World) (m1 g1 m2 g2 B : Nat) (sa sb : MSt) (w : World) : Prop where
  ex : ∃ ta tb, MachAt m1 g1 B ta sa w ∧ MachAt m2 g2 B tb sb w ∧ ∀ g, ta.ownBlock = some g → tb.ownBlock = some g → False
  upd : Upd [] zz w
  le : B ≤ w.heap.size
theorem Blk.swap {zz : World} {m1 g1 m2 g2 B : Nat} (h : Blk zz m1 g1 m2 g2 B) : Blk zz m2 g2 m1 g1 B := by
  obtain ⟨⟨a, b, c, d⟩, e, f, g, k, l⟩ := h
  exact ⟨⟨fun h => a h.symm, fun h => c h.symm, fun h => b h.symm, fun h => d h.symm⟩, g, k, e, f, l⟩
theorem Pr.swap {zz : World} {m1 g1 m2 g2 B : Nat} {sa sb : MSt} {w : World} (h : Pr zz m1 g1 m2 g2 B sa sb w) : Pr zz m2 g2 m1 g1 B sb sa w := by
  obtain ⟨⟨ta, tb, ma, mb, hs⟩, a, b⟩ := h
  exact ⟨⟨tb, ta, mb, ma, fun g h1 h2 => hs g h2 h1⟩, a, b⟩
theorem Pr.upd0 {zz : World} {m1 g1 m2 g2 B : Nat} {sa sb : MSt} {w w' : World} (h : Pr zz m1 g1 m2 g2 B sa sb w) (u : Upd [] w w') : Pr zz m1 g1 m2 g2 B sa sb w' := by
  obtain ⟨⟨ta, tb, ma, mb, hs⟩, a, b⟩ := h
  exact ⟨⟨ta, tb, ma.upd0 u, mb.upd0 u, hs⟩, a.trans u, Nat.le_trans b u.size⟩
theorem Pr.fst {zz : World} {m1 g1 m2 g2 B : Nat} {sa sb : MSt} {w : World} (k : Blk zz m1 g1 m2 g2 B) (h : Pr zz m1 g1 m2 g2 B sa sb w) : One zz m1 g1 B sa w := by
  obtain ⟨⟨ta, tb, ma, mb, hs⟩, a, b⟩ := h
  exact ⟨⟨ta, ma⟩, a, b, k.o.1, k.o.2.1, k.o.2.2.2.2⟩
theorem Pr.snd {zz : World} {m1 g1 m2 g2 B : Nat} {sa sb : MSt} {w : World} (k : Blk zz m1 g1 m2 g2 B) (h : Pr zz m1 g1 m2 g2 B sa sb w) : One zz m2 g2 B sb w := h.swap.fst k.swap
theorem Pr.stR {zz : World} {m1 g1 m2 g2 B : Nat} {sa sb sb' : MSt} {w w' : World} {ta tb : Value} (k : Blk zz m1 g1 m2 g2 B) (h : Pr zz m1 g1 m2 g2 B sa sb w) (ma : MachAt m1 g1 B ta sa w) (mb : MachAt m2 g2 B tb sb w)
    (hs : ∀ g, ta.ownBlock = some g → tb.ownBlock = some g → False) (r : StR m2 g2 B tb sb' w w') : Pr zz m1 g1 m2 g2 B sa sb' w' := by
  obtain ⟨_, a, b⟩ := h
  have hk := k.d
  have hko := k.o
  have ht1 := ma.top
  have ht2 := mb.top
  have L1 : ∀ g, ta.ownBlock = some g → B ≤ g ∧ g < w.heap.size := fun g hg => World.ownsRow.lt ma.own g hg
  have L2 : ∀ g, tb.ownBlock = some g → B ≤ g ∧ g < w.heap.size := fun g hg => World.ownsRow.lt mb.own g hg
  obtain ⟨tb', mb', u, o⟩ := r
  have hin : ∀ x, x ∈ m2 :: g2 :: tb.ownBlock.toList → x = m2 ∨ x = g2 ∨ tb.ownBlock = some x := fun x hx => by
    simpa only [List.mem_cons, Option.mem_toList] using hx
  refine ⟨⟨ta, tb', ma.upd u (fun h => ?_) (fun h => ?_) (fun g hg h => ?_), mb', fun g h1 h2 => ?_⟩, a.then u (fun x hx hlt => ?_), Nat.le_trans b u.size⟩
  · rcases hin _ h with h | h | h
    · omega
    · omega
    · have := L2 _ h; omega
  · rcases hin _ h with h | h | h
    · omega
    · omega
    · have := L2 _ h; omega
  · have := L1 g hg
    rcases hin _ h with h | h | h
    · omega
    · omega
    · exact hs g hg h
  · rcases o g h2 with h | h
    · exact hs g h1 h
    · have := L1 g h1; omega
  · rcases hin _ hx with h | h | h
    · omega
    · omega
    · have := L2 _ h; omega
theorem pr_stepB {zz : World} {m1 g1 m2 g2 B : Nat} {sa sb : MSt} {w : World} (k : Blk zz m1 g1 m2 g2 B) (h : Pr zz m1 g1 m2 g2 B sa sb w) (iv : MInv sb) (ht : sb.trace.length ≤ 4000) (hsn : sb.steps ≤ 1000000) :
    Calls Tryz.prog 12 #[.pointer (some ⟨m2, 0, none⟩)] w fun e z' => e = .returned (.tuple #[.agg (retL (retP sb)).toArray, .bool (!sb.halted)]) ∧ Pr zz m1 g1 m2 g2 B sa (stepP sb) z' := by
  obtain ⟨ta, tb, ma, mb, hs⟩ := h.ex
  refine (step_calls m2 g2 B tb sb w mb iv h.le ht hsn).mono ?_
  rintro e z' ⟨rfl, r⟩
  exact ⟨rfl, h.stR k ma mb hs r⟩
theorem pr_runB {zz : World} {m1 g1 m2 g2 B : Nat} {sa sb : MSt} {w : World} (k : Blk zz m1 g1 m2 g2 B) (h : Pr zz m1 g1 m2 g2 B sa sb w) (iv : MInv sb) (n : Nat) (ht : sb.trace.length + n ≤ 4000) (hsn : sb.steps + n ≤ 1000000) :
    Calls Tryz.prog 23 #[.pointer (some ⟨m2, 0, none⟩), .int .i64 (n : Int)] w fun e z' => ∃ k : Nat, e = .returned (.int .i64 (k : Int)) ∧ k ≤ n ∧ (∀ j, j < k → (itS sb j).halted = false) ∧ (k = n ∨ (itS sb k).halted = true) ∧ Pr zz m1 g1 m2 g2 B sa (itS sb k) z' := by
  obtain ⟨ta, tb, ma, mb, hs⟩ := h.ex
  refine (run_calls m2 g2 B tb sb w mb iv n h.le ht hsn).mono ?_
  rintro e z' ⟨k, rfl, hk, hj, he, r⟩
  exact ⟨k, rfl, hk, hj, he, h.stR ‹_› ma mb hs r⟩
theorem pr_runA {zz : World} {m1 g1 m2 g2 B : Nat} {sa sb : MSt} {w : World} (k : Blk zz m1 g1 m2 g2 B) (h : Pr zz m1 g1 m2 g2 B sa sb w) (iv : MInv sa) (n : Nat) (ht : sa.trace.length + n ≤ 4000) (hsn : sa.steps + n ≤ 1000000) :
    Calls Tryz.prog 23 #[.pointer (some ⟨m1, 0, none⟩), .int .i64 (n : Int)] w fun e z' => ∃ k : Nat, e = .returned (.int .i64 (k : Int)) ∧ k ≤ n ∧ (∀ j, j < k → (itS sa j).halted = false) ∧ (k = n ∨ (itS sa k).halted = true) ∧ Pr zz m1 g1 m2 g2 B (itS sa k) sb z' := by
  refine (pr_runB k.swap h.swap iv n ht hsn).mono ?_
  rintro e z' ⟨k, rfl, hk, hj, he, r⟩
  exact ⟨k, rfl, hk, hj, he, r.swap⟩
/-- Two new ones. -/
theorem pr_new {zz w : World} (ns : List Nat) (u0 : Upd [] zz w) (A : Option Addr) (n c : Nat) (hn : n = ns.length) (hA : NumsAt w .u32 A ns) (hl : n ≤ 1024) :
    Calls Tryz.prog 10 #[.slice A n c] w fun e z' => e = .returned (.tuple #[.pointer (some ⟨w.heap.size + 1, 0, none⟩), .int .i64 0]) ∧ NumsAt z' .u32 A ns ∧ w.heap.size + 1 < z'.heap.size ∧ MachAt (w.heap.size + 1) w.heap.size (w.heap.size + 2) (.slice none 0 0) (newS ns) z' ∧ Upd [] w z' := by
  subst hn
  refine (mnew_calls A ns c w hA hl).mono ?_
  rintro e z' ⟨rfl, m, u⟩
  exact ⟨rfl, hA.of_upd u, lt_of_block m.cell, m, u⟩
theorem pr_two {zz w1 w2 w3 : World} {m1 m2 : Nat} (ns : List Nat) (h0 : Upd [] zz w1) (M1 : MachAt (w1.heap.size + 1) w1.heap.size (w1.heap.size + 2) (.slice none 0 0) (newS ns) w2) (h1 : w1.heap.size + 1 < w2.heap.size) (u1 : Upd [] w1 w2)
    (M2 : MachAt (w2.heap.size + 1) w2.heap.size (w2.heap.size + 2) (.slice none 0 0) (newS ns) w3) (h2 : w2.heap.size + 1 < w3.heap.size) (u2 : Upd [] w2 w3) :
    Blk zz (w1.heap.size + 1) w1.heap.size (w2.heap.size + 1) w2.heap.size w3.heap.size ∧ Pr zz (w1.heap.size + 1) w1.heap.size (w2.heap.size + 1) w2.heap.size w3.heap.size (newS ns) (newS ns) w3 := by
  have hz := h0.size
  have M1' := M1.upd0 u2
  refine ⟨⟨by omega, by omega, by omega, by omega, by omega, by omega⟩, ⟨⟨.slice none 0 0, .slice none 0 0, ⟨M1'.cell, M1'.mem, ⟨rfl, .inl ⟨rfl, rfl⟩⟩, M1'.ne, by omega, by omega⟩, ⟨M2.cell, M2.mem, ⟨rfl, .inl ⟨rfl, rfl⟩⟩, M2.ne, by omega, by omega⟩, fun g h => by cases h⟩, (h0.trans u1).trans u2, Nat.le_refl _⟩⟩
end Go.Proofs.YtggjmdgonjhioaaGreat

namespace Go.Proofs.YtggjmdgonjhioaaGreat
open Go.RowKit Go.Dio
set_option linter.unusedSimpArgs false
set_option linter.unusedVariables false

def knownL : List Nat := setL 5 77 ++ (outL 5 ++ stopL 5)
theorem known_runs : (∀ j, j < 8 → (itS (newS knownL) j).halted = false) ∧ (itS (newS knownL) 8).halted = true ∧ (itS (newS knownL) 8).code = 77 ∧ (itS (newS knownL) 8).trace = [77] ∧ (itS (newS knownL) 8).steps = 8 ∧ nth (itS (newS knownL) 8).regs 5 = 77 := by
  decide +kernel
theorem knownL_len : knownL.length = 8 := by decide +kernel
theorem knownL_lt : ∀ x ∈ knownL, x < 2 ^ 32 := by decide +kernel
theorem arr_regs (p : StV) (hr : p.regs.length = 32) : p.arr.extract 1 33 = nums .u32 p.regs := by
  apply Array.ext'
  simp [StV.arr, nums, hr]
theorem run_field_regs (p : StV) (hr : p.regs.length = 32) (w : World) : (Instr.field 60 (.agg p.arr) 1).run Tryz.prog w = .ok (.agg (nums .u32 p.regs)) w := by
  have h1 : ∀ w, (isAgg 57).run Tryz.prog w = .ok true w := fun w => by go_simp
  have h2 : ∀ w, (sizeOf 57).run Tryz.prog w = .ok 32 w := fun w => by go_simp
  have h3 := arr_regs p hr
  simp [Instr.field, run_underlying Tryz.underlying60, asAgg, part, h1, h2, h3, go_sem]
theorem run_index_regs (l : List Nat) (hr : l.length = 32) (i : Nat) (hi : i < 32) (w : World) : (Instr.index 57 (.agg (nums .u32 l)) (.int .i64 (i : Int))).run Tryz.prog w = .ok (.int .u32 ((nth l i : Nat) : Int)) w :=
  run_index_nums 57 36 32 .u32 l i Tryz.underlying57 (fun w => by go_simp) (fun w => by go_simp) hr hi w
set_option maxRecDepth 20000 in
set_option maxHeartbeats 8000000 in
theorem known_calls (zz : World) :
    Calls Tryz.prog 9 #[] zz fun e z' => e = .returned (.bool true) ∧ Upd [] zz z' := by
  obtain ⟨Z, hZ, hmk0⟩ := ex_rep 1025 (by decide)
  have hmk : ∀ u : World, (Instr.makeSlice 23 (.int .i64 1025) (.int .i64 1025)).run Tryz.prog u = .ok (.slice (some ⟨u.heap.size, 0, none⟩) 1025 1025) (u.alloc (.cells (nums .u32 Z) 36)) := hmk0
  clear hmk0 hZ
  obtain ⟨P, hP⟩ : ∃ P, P = knownL := ⟨_, rfl⟩
  have HP : Hid (P = setL 5 77 ++ (outL 5 ++ stopL 5)) := Lib.hid (by rw [hP]; rfl)
  have HPL : Hid (P.length = 8) := Lib.hid (by rw [hP]; exact knownL_len)
  have HPT : Hid (∀ x ∈ P, x < 2 ^ 32) := Lib.hid (by rw [hP]; exact knownL_lt)
  have HPR : Hid ((∀ j, j < 8 → (itS (newS P) j).halted = false) ∧ (itS (newS P) 8).halted = true ∧ (itS (newS P) 8).code = 77 ∧ (itS (newS P) 8).trace = [77] ∧ (itS (newS P) 8).steps = 8 ∧ nth (itS (newS P) 8).regs 5 = 77) := Lib.hid (by rw [hP]; exact known_runs)
  clear hP
  go_enter Tryz.func9, Tryz.ntmps9
  go_wp2_with (fail)
  refine (Set_calls 5 77 _ (by decide) (by decide)).mono ?_
  rintro e w1 ⟨A1, c1, rfl, O1, u1⟩
  have O1' := Lib.hid O1
  have U1 := Lib.hid u1
  clear O1 u1
  go_wp2_with (fail)
  refine (Out_calls 5 _ (by decide)).mono ?_
  rintro e w2 ⟨A2, c2, rfl, O2, u2⟩
  have O12 := Lib.hid (O1'.out.upd u2 (fun g hg => by simp at hg))
  have L1 := Lib.hid (fun g hg => (World.ownsRow.lt O1'.out g hg))
  have O2' := Lib.hid O2
  have U2 := Lib.hid (U1.out.trans u2)
  have hs23 : w1.heap.size ≤ w2.heap.size := u2.size
  have hs01 := U1.out.size
  clear O2 u2 O1' U1
  go_wp2_with (fail)
  refine (Stop_calls 5 _ (by decide)).mono ?_
  rintro e w3 ⟨A3, c3, rfl, O3, u3⟩
  have O13 := Lib.hid (O12.out.upd u3 (fun g hg => by simp at hg))
  have O23 := Lib.hid (O2'.out.upd u3 (fun g hg => by simp at hg))
  have L2 := Lib.hid (fun g hg => (World.ownsRow.lt O2'.out g hg))
  have N3 := Lib.hid O3.nat
  have U3 := Lib.hid (U2.out.trans u3)
  have hs3 : w2.heap.size ≤ w3.heap.size := u3.size
  clear O3 u3 O12 O2' U2
  have hl3 : (outL 5).length + (stopL 5).length ≤ 5000 := by simp [outL, stopL, setL]
  have hl5 : (setL 5 77).length + (outL 5 ++ stopL 5).length ≤ 5000 := by simp [outL, stopL, setL]
  go_wp2_with (first | go_skip | ((with_reducible refine at_op 15 ?_); refine L_app (.tmp 13) (.tmp 14) rfl (by kernel_rfl) w1.heap.size _ (outL 5) rfl O23.out _ _ _ (stopL 5) rfl rfl N3.out hl3 (Nat.le_trans hs23 hs3) ?_))
  intro v4 w4 O4 u4
  obtain ⟨A4, c4, rfl, _, _, N4, _⟩ := O4.words
  have O14 := Lib.hid (own_upd O13.out u4 (fun g hg hs => by
    have h1 := L1.out g hg
    have h2 := L2.out g (by simpa using hs)
    omega))
  have N4' := Lib.hid N4
  have U4 := Lib.hid (U3.out.then u4 (fun x hx hlt => by
    have h2 := L2.out x (by simpa using hx)
    omega))
  have L4 := Lib.hid (fun g hg => (World.ownsRow.lt O4 g hg))
  clear O4 u4 N4 O13 O23 N3 U3 L1 L2
  go_wp2_with (first | go_skip | ((with_reducible refine at_op 16 ?_); refine L_app (.tmp 12) (.tmp 15) rfl (by kernel_rfl) zz.heap.size _ (setL 5 77) rfl O14.out _ _ _ (outL 5 ++ stopL 5) rfl rfl N4'.out hl5 U4.out.size ?_))
  intro v5 w5 O5 u5
  have U5 := Lib.hid (U4.out.then u5 (fun x hx hlt => by
    have h2 := World.ownsRow.lt O14.out x (by simpa using hx)
    omega))
  rw [← HP.out] at O5
  obtain ⟨A5, c5, rfl, _, _, N5, _⟩ := O5.words
  have N5' := Lib.hid N5
  clear O5 u5 N5 O14 N4' U4 L4
  obtain ⟨n, hn⟩ : ∃ n, n = P.length := ⟨_, rfl⟩
  have HPL2 := HPL
  rw [← hn] at HPL ⊢
  have HN := Lib.hid hn
  clear hn
  have hn8 : n ≤ 1024 := by rw [HPL.out]; decide
  go_wp2_with (fail)
  refine (one_new U5.out A5 P n c5 HN.out N5'.out hn8).mono ?_
  rintro e w6 ⟨mb, gb, B, rfl, o6, u6⟩
  have O6 := Lib.hid o6
  clear o6 u6 N5' U5
  go_wp2_with (fail)
  refine (mnew_long _ 1025 1025 _ (by decide)).mono ?_
  rintro e w7 ⟨rfl, rfl⟩
  go_wp2_with (fail)
  have IV := newS_inv (ns := P) (by rw [HPL2.out]; decide) HPT.out
  have PR := Lib.hid (And.intro HPR.out IV)
  obtain ⟨s0, hs0⟩ : ∃ s0, s0 = newS P := ⟨_, rfl⟩
  have st0 : s0.trace.length = 0 := by rw [hs0]; rfl
  have ss0 : s0.steps = 0 := by rw [hs0]; rfl
  rw [← hs0] at O6 PR IV
  refine (one_run (O6.out.upd0 ((Upd.refl [] _).alloc _)) IV 100 (by omega) (by omega)).mono ?_
  rintro e w7 ⟨k, rfl, hk, hj, he, o7⟩
  have hk8 : k = 8 := by
    rcases Nat.lt_trichotomy k 8 with h | h | h
    · rcases he with h2 | h2
      · omega
      · rw [PR.out.1.1 k h] at h2; cases h2
    · exact h
    · have := hj 8 h; rw [PR.out.1.2.1] at this; cases this
  subst hk8
  have iv8 := itS_inv IV 8
  obtain ⟨_, p1, p2, p3, p4, p5⟩ := PR.out.1
  obtain ⟨S, hS⟩ : ∃ S, S = itS s0 8 := ⟨_, rfl⟩
  rw [← hS] at iv8 p1 p2 p3 p4 p5 o7
  have O7 := Lib.hid o7
  have OK := Lib.hid iv8.ok
  have H7 : Hid (Calls _ _ _ _ _) := Lib.hid (one_halted o7 iv8.ok)
  rw [p1, p2] at H7
  have P3 := Lib.hid p3
  have P4 := Lib.hid p4
  have P5 := Lib.hid p5
  have P1 := Lib.hid p1
  clear hj he o7 iv8 p1 p2 p3 p4 p5 hS PR IV O6 st0 ss0 hs0 hk
  go_wp2_with (fail)
  refine H7.out.mono ?_
  rintro e w8 ⟨rfl, u8⟩
  have O8 := Lib.hid (O7.out.upd0 u8)
  clear u8 O7 H7
  go_wp2_with (fail)
  have T8 : Hid (Calls Tryz.prog 25 #[.pointer (some ⟨mb, 0, none⟩)] w8 fun e z' => ∃ A cap, e = .returned (.slice A 1 cap) ∧ NumsAt z' .u32 A [77] ∧ Upd [] w8 z' ∧ 1 ≤ cap ∧ cap ≤ 9223372036854775807) := Lib.hid (by
    have h := one_trace O8.out OK.out (by rw [P3.out]; decide)
    rw [P3.out] at h
    exact h)
  refine T8.out.mono ?_
  rintro e w9 ⟨A9, c9, rfl, n9, u9, _⟩
  obtain ⟨b, o, rfl, hb, hc⟩ := n9 (by decide)
  have N9 : Hid (NumsAt w9 .u32 (some ⟨b, o, none⟩) [77]) := Lib.hid n9
  have O9 := Lib.hid (O8.out.upd0 u9)
  clear u9 n9 hb hc T8 O8
  go_wp2_with (fail)
  refine (one_stay O9.out OK.out P1.out).mono ?_
  rintro e w10 ⟨rfl, u10⟩
  have O10 := Lib.hid (O9.out.upd0 (u10.alloc (.cells #[.int .u32 0, .int .u32 0, .int .i64 0, .bool false, .int .u32 0, .int .u32 0, .int .i64 0] 38)))
  have N10 := Lib.hid (N9.out.of_upd (u10.alloc (.cells #[.int .u32 0, .int .u32 0, .int .i64 0, .bool false, .int .u32 0, .int .u32 0, .int .i64 0] 38)))
  clear u10 O9 N9
  go_upto_region 9 with (fail)
  generalize hW : World.alloc w10 _ = W
  have hW2 : w10.alloc (.cells #[.int .u32 0, .int .u32 0, .int .i64 0, .bool false, .int .u32 0, .int .u32 0, .int .i64 0] 38) = W := hW
  rw [hW2] at O10 N10
  clear hW hW2
  have c0 : W.cell? ⟨b, o, none⟩ = some (.int .u32 77) := by
    obtain ⟨b', o', hA, _, hc⟩ := N10.out (by decide)
    injection hA with hA
    injection hA with e1 e2
    subst e1 e2
    exact hc 0 (by decide)
  have S10 : Hid (Calls Tryz.prog 26 #[.pointer (some ⟨mb, 0, none⟩)] W fun e z' => e = .returned (.int .i64 8) ∧ z' = W) := Lib.hid (by
    have h := one_steps O10.out OK.out
    rw [P4.out] at h
    exact h)
  go_wp2_with (fail)
  refine S10.out.mono ?_
  rintro e z1 ⟨rfl, rfl⟩
  go_wp2_with (fail)
  refine (one_state O10.out OK.out).mono ?_
  rintro e w11 ⟨A11, c11, rfl, ok11, u11⟩
  have U11 := Lib.hid (O10.out.upd.trans u11)
  have F1 : ∀ w, (Instr.field 60 (.agg (StV.arr ⟨S.pc, S.regs, S.csrs, A11, S.mem, c11⟩)) 1).run Tryz.prog w = .ok (.agg (nums .u32 S.regs)) w := run_field_regs ⟨S.pc, S.regs, S.csrs, A11, S.mem, c11⟩ OK.out.regs
  have F2 : ∀ w, (Instr.index 57 (.agg (nums .u32 S.regs)) (.int .i64 5)).run Tryz.prog w = .ok (.int .u32 77) w := fun w => by
    have h := run_index_regs S.regs OK.out.regs 5 (by decide) w
    rw [P5.out] at h
    exact h
  clear ok11 u11
  go_wp2_with (fail)
  go_ret
  exact ⟨rfl, U11.out⟩
end Go.Proofs.YtggjmdgonjhioaaGreat
