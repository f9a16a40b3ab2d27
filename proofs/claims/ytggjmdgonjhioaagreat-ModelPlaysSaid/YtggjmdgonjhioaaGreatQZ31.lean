/- A plain machine: its record, changed. -/
import Derived.Test.YtggjmdgonjhioaaGreatQZ30
import Derived.Test.YtggjmdgonjhioaaGreatQZ08
namespace Go.Proofs.YtggjmdgonjhioaaGreat
open Go.RowKit Go.Dio
set_option linter.unusedSimpArgs false
set_option linter.unusedVariables false

theorem vals_set (k : IntKind) (l : List Nat) (j n : Nat) : (vals k l).set j (.int k (n : Int)) = vals k (l.set j n) := by simp [vals, List.map_set]
theorem mset_pc (s : MSt) (gb : Nat) (tv : Value) (n : Nat) : (mcells s gb tv).set 0 (.int .u32 (n : Int)) = mcells { s with pc := n } gb tv := rfl
theorem mset_reg (s : MSt) (gb : Nat) (tv : Value) (j n : Nat) (hr : s.regs.length = 32) (hj : j < 32) : (mcells s gb tv).set (1 + j) (.int .u32 (n : Int)) = mcells { s with regs := s.regs.set j n } gb tv := by
  rw [mcells, Nat.add_comm, List.set_cons_succ, List.set_append_left _ _ (by rw [vals_length]; omega), vals_set]
  rfl
theorem mset_tail (s : MSt) (gb : Nat) (tv : Value) (j : Nat) (v : Value) (hr : s.regs.length = 32) (hc : s.csrs.length = 5) :
    (mcells s gb tv).set (38 + j) v = .int .u32 (s.pc : Int) :: (vals .u32 s.regs ++ (vals .u32 s.csrs ++ [Value.slice (some ⟨gb, 0, none⟩) 1024 1024, tv, .bool s.halted, .int .u32 (s.code : Int), .int .i64 (s.steps : Int)].set j v)) := by
  rw [mcells, show 38 + j = (32 + (5 + j)) + 1 by omega, List.set_cons_succ, List.set_append_right _ _ (by rw [vals_length]; omega), vals_length, hr, show 32 + (5 + j) - 32 = 5 + j by omega,
    List.set_append_right _ _ (by rw [vals_length]; omega), vals_length, hc, show 5 + j - 5 = j by omega]
theorem mset_trace (s : MSt) (gb : Nat) (tv tv' : Value) (t : List Nat) (hr : s.regs.length = 32) (hc : s.csrs.length = 5) : (mcells s gb tv).set 39 tv' = mcells { s with trace := t } gb tv' := mset_tail s gb tv 1 tv' hr hc
theorem mset_halted (s : MSt) (gb : Nat) (tv : Value) (b : Bool) (hr : s.regs.length = 32) (hc : s.csrs.length = 5) : (mcells s gb tv).set 40 (.bool b) = mcells { s with halted := b } gb tv := mset_tail s gb tv 2 _ hr hc
theorem mset_code (s : MSt) (gb : Nat) (tv : Value) (n : Nat) (hr : s.regs.length = 32) (hc : s.csrs.length = 5) : (mcells s gb tv).set 41 (.int .u32 (n : Int)) = mcells { s with code := n } gb tv := mset_tail s gb tv 3 _ hr hc
theorem mset_steps (s : MSt) (gb : Nat) (tv : Value) (n : Nat) (hr : s.regs.length = 32) (hc : s.csrs.length = 5) : (mcells s gb tv).set 42 (.int .i64 (n : Int)) = mcells { s with steps := n } gb tv := mset_tail s gb tv 4 _ hr hc
theorem mcells_mem (s : MSt) (gb : Nat) (tv : Value) (m : List Nat) : mcells { s with mem := m } gb tv = mcells s gb tv := rfl
theorem mcells_len (s : MSt) (gb : Nat) (tv : Value) (hr : s.regs.length = 32) (hc : s.csrs.length = 5) : (mcells s gb tv).length = 43 := by
  simp [mcells, vals_length, hr, hc]
theorem drop2 (A B C : List Value) (hA : A.length = 33) (hB : B.length = 5) : (A ++ (B ++ C)).drop (33 + 5) = C := by
  rw [← List.append_assoc]; exact List.drop_left' (by rw [List.length_append, hA, hB])
theorem mspl_csr (s : MSt) (gb : Nat) (tv : Value) (cs : List Nat) (hr : s.regs.length = 32) (hc : s.csrs.length = 5) (hl : cs.length = 5) : spl (mcells s gb tv) 33 (vals .u32 cs) = mcells { s with csrs := cs } gb tv := by
  have e : mcells s gb tv = (.int .u32 (s.pc : Int) :: vals .u32 s.regs) ++ (vals .u32 s.csrs ++ [Value.slice (some ⟨gb, 0, none⟩) 1024 1024, tv, .bool s.halted, .int .u32 (s.code : Int), .int .i64 (s.steps : Int)]) := rfl
  have h1 : (Value.int .u32 (s.pc : Int) :: vals .u32 s.regs).length = 33 := by simp [vals_length, hr]
  have h2 : (vals .u32 s.csrs).length = 5 := by rw [vals_length, hc]
  have h3 : (vals .u32 cs).length = 5 := by rw [vals_length, hl]
  unfold spl
  rw [e, h3, List.take_append_of_le_length (by omega), List.take_of_length_le (by omega), drop2 _ _ _ h1 h2, List.append_assoc]
  rfl
/-- Append, and where the row lies then. -/
theorem L_app2 {ops : Array Oper} {rest : List Oper} {o : Oper} {a : Act} {w : World} {Q : Exit → Act → World → Prop} (s x : Operand)
    (ho : o.op = .call { callee := .builtin .append, args := #[s, x], argTypes := #[23, 23] }) (hw : Region.wanted o (yielded ops a.tmps) = true)
    (base : Nat) (v : Value) (l : List Nat) (hs : a.eval s = v) (hO : Ow base w v l)
    (A : Option Addr) (m c : Nat) (ml : List Nat) (hx : a.eval x = .slice A m c) (hm : m = ml.length) (hA : NumsAt w .u32 A ml) (hl : l.length + ml.length ≤ 5000) (hbase : base ≤ w.heap.size)
    (h : ∀ v' w', Ow base w' v' (l ++ ml) → Upd v.ownBlock.toList w w' → (∀ g, v'.ownBlock = some g → v.ownBlock = some g ∨ w.heap.size ≤ g) → wpList Tryz.prog ops Q rest (a.put o.dst v') w') :
    wpList Tryz.prog ops Q (o :: rest) a w := by
  subst hm
  refine L_append w s x 23 ho hw base 36 _ 1 4 Tryz.underlying23 info_w32k rfl (by omega) v l.length (vals .u32 l) hs hO A ml.length c (vals .u32 ml) hx (by simp [vals]) (srcAt_nums hA) (vals_one _ _) (by simp only [maxLen]; omega) (by omega) hbase ?_
  intro v' w' own g hb
  refine h v' w' ?_ (upd_grown g) (fun k hk => ?_)
  · unfold Ow
    rw [vals_append, List.length_append]
    exact own
  · rcases hb with hb | hb
    · exact .inl (by rw [← hb]; exact hk)
    · rw [hb] at hk; injection hk with hk; exact .inr (by omega)
/-- What a store does to a machine. -/
def stS (s : MSt) (A d : Nat) (mask : Int) : MSt :=
  if A = 268435456 then { s with trace := s.trace ++ [d] }
  else if A = 268435460 then { s with halted := true, code := d }
  else { s with mem := s.mem.set (A / 4) (mrg (nth s.mem (A / 4)) d mask) }
def retArr (pc val rd : Int) (st : Bool) (A d : Nat) (mask : Int) : Array Value := #[.int .u32 pc, .int .u32 val, .int .i64 rd, .bool st, .int .u32 (A : Int), .int .u32 (d : Int), .int .i64 mask]
theorem info_b1 : (Tryz.prog.info? 4).map (·.size) = some 1 := by kernel_rfl
end Go.Proofs.YtggjmdgonjhioaaGreat

namespace Go.Proofs.YtggjmdgonjhioaaGreat
open Go.RowKit Go.Dio
set_option linter.unusedSimpArgs false
set_option linter.unusedVariables false

/-- What is behind a store: the machine, changed; nothing else of old. -/
def StR (mb gb base : Nat) (tv : Value) (s : MSt) (zz w' : World) : Prop :=
  ∃ tv', MachAt mb gb base tv' s w' ∧ Upd (mb :: gb :: tv.ownBlock.toList) zz w' ∧ ∀ g, tv'.ownBlock = some g → tv.ownBlock = some g ∨ zz.heap.size ≤ g
set_option maxRecDepth 20000 in
set_option maxHeartbeats 4000000 in
theorem store_halt (mb gb base : Nat) (tv : Value) (s : MSt) (zz : World) (M : MachAt mb gb base tv s zz) (ok : MOk s) (pc val rd : Int) (st : Bool) (d : Nat) (mask : Int) :
    Calls Tryz.prog 29 #[.pointer (some ⟨mb, 0, none⟩), .agg (retArr pc val rd st 268435460 d mask)] zz fun e z' => e = .returned (.tuple #[]) ∧ StR mb gb base tv (stS s 268435460 d mask) zz z' := by
  have hE : stS s 268435460 d mask = { s with halted := true, code := d } := rfl
  rw [hE]
  clear hE
  have hown : ∀ g, tv.ownBlock = some g → base ≤ g := fun g hg => (World.ownsRow.lt M.own g hg).1
  have htop := M.top
  have hlt := lt_of_block M.cell
  show Calls _ _ #[_, .agg #[.int .u32 pc, .int .u32 val, .int .i64 rd, .bool st, .int .u32 268435460, .int .u32 (d : Int), .int .i64 mask]] _ _
  go_enter Tryz.func29, Tryz.ntmps29
  go_wp2_with (fail)
  have R0 := Lib.hid (hl1 zz (.cells (retArr pc val rd st 268435460 d mask) 38))
  have MW := Lib.hid (M.upd0 ((Upd.refl [] zz).alloc (.cells (retArr pc val rd st 268435460 d mask) 38)))
  have UW := Lib.hid ((Upd.refl [] zz).alloc (.cells (retArr pc val rd st 268435460 d mask) 38))
  generalize hW : World.alloc zz _ = W
  have hW2 : zz.alloc (.cells (retArr pc val rd st 268435460 d mask) 38) = W := hW
  rw [hW2] at R0 MW UW
  clear hW hW2
  have n5 : ∀ x : Near [mb] W, x.1.cell? ⟨zz.heap.size, 5, none⟩ = some (.int .u32 (d : Int)) := fun x => by rw [cells_of (x.2.keep R0.out (by simp; omega))]; rfl
  have c40 : W.drew.cell? ⟨mb, 40, none⟩ = some (.bool s.halted) := by rw [(MW.out.upd0 (Upd.refl [] W).drew).cAt 40, mc_tail s gb tv 2 ok.regs ok.csrs]; rfl
  have f40 : W.drew.frozen? ⟨mb, 40, none⟩ = false := free_of (MW.out.upd0 (Upd.refl [] W).drew).cell 40
  refine wp_region_plan (fun z => ∃ x : Near [mb] W, z = x.1) [([0, 1, 2, 3, 4, 5], 6), ([7, 8], 9)] [] (by kernel_rfl) (by kernel_rfl) (by kernel_rfl) (by kernel_rfl) (fun _ d _ _ _ h => by cases d <;> exact h) ⟨⟨(W).drew, (Upd.refl _ _).drew⟩, rfl⟩ ?_
  refine plan_next ?_
  simp only [opsAt, List.map_cons, List.map_nil, List.getElem?_toArray, List.getElem?_cons_zero, List.getElem?_cons_succ, Option.getD_some]
  repeat (go_big_quiet_step (fail))
  refine wpQuiet_nil ?_
  refine plan_one rfl ?_
  go_wp2_with fail
  have V2 : Hid (Upd [mb] W (W.setCell ⟨mb, 40, none⟩ (.bool true)).drew) := Lib.hid (((Upd.refl _ _).setCell (p := ⟨mb, 40, none⟩) (by simp) _).drew)
  have M2 : Hid ((W.setCell ⟨mb, 40, none⟩ (.bool true)).drew.heap[mb]? = some (.cells (mcells { s with halted := true } gb tv).toArray 63 (0, 0))) := Lib.hid (by
    show (W.setCell ⟨mb, 40, none⟩ (.bool true)).heap[mb]? = _
    rw [heap_setCell_eq MW.out.cell]
    rw [← mset_halted s gb tv true ok.regs ok.csrs]; simp)
  generalize hX : World.drew (World.setCell W _ _) = X at *
  clear hX c40 f40
  refine plan_same ⟨⟨_, V2.out⟩, rfl⟩ ?_
  refine plan_next ?_
  simp only [opsAt, List.map_cons, List.map_nil, List.getElem?_toArray, List.getElem?_cons_zero, List.getElem?_cons_succ, Option.getD_some]
  repeat (go_big_quiet_step (fail))
  refine wpQuiet_nil ?_
  refine plan_one rfl ?_
  refine L_store_int 36 (.tmp 52) (.tmp 48) rfl (by kernel_rfl) mb 41 rfl (mcells { s with halted := true } gb tv) 63 M2.out .u32 (d : Int) rfl info_u1 (by rw [mcells_len { s with halted := true } gb tv ok.regs ok.csrs]; decide) ?_
  intro w3 b3 u3 z3
  have M3 : Hid (w3.heap[mb]? = some (.cells (mcells { s with halted := true, code := d } gb tv).toArray 63 (0, 0))) := Lib.hid (by rw [b3, mset_code { s with halted := true } gb tv d ok.regs ok.csrs])
  have V3 := Lib.hid (V2.out.trans u3)
  clear b3 u3 z3 n5
  refine plan_same ⟨⟨_, V3.out⟩, rfl⟩ ?_
  refine plan_last ?_
  simp only [opsAt, List.map_cons, List.map_nil, List.getElem?_toArray, List.getElem?_cons_zero, List.getElem?_cons_succ, Option.getD_some]
  go_simp
  refine wpQuiet_nil ?_
  unfold planEnd
  go_wp2_with (fail)
  go_end0
  have hm : gb ∉ [mb] := by have := MW.out.ne; simp; exact this
  refine ⟨rfl, tv, ⟨M3.out, V3.out.keep MW.out.mem hm, own_upd MW.out.own V3.out (fun g hg hs => by have := hown g hg; simp at hs; omega), MW.out.ne, htop⟩, ?_, fun g hg => .inl hg⟩
  exact (UW.out.mono (T := mb :: gb :: tv.ownBlock.toList) (fun x hx _ => by simp at hx)).trans (V3.out.mono (T := mb :: gb :: tv.ownBlock.toList) (fun x hx _ => by simp at hx; simp [hx]))
theorem nums_set_l (l : List Nat) (q n : Nat) : ((nums .u32 l).toList.set q (.int .u32 (n : Int))).toArray = nums .u32 (l.set q n) := by
  rw [numsK_vals, vals_set, ← numsK_vals]
set_option maxRecDepth 20000 in
set_option maxHeartbeats 4000000 in
theorem store_mem (mb gb base : Nat) (tv : Value) (s : MSt) (zz : World) (M : MachAt mb gb base tv s zz) (ok : MOk s) (pc val rd : Int) (st : Bool) (A d : Nat) (mask : Int) (hA : A < 4096) (hd : d < 2 ^ 32) :
    Calls Tryz.prog 29 #[.pointer (some ⟨mb, 0, none⟩), .agg (retArr pc val rd st A d mask)] zz fun e z' => e = .returned (.tuple #[]) ∧ StR mb gb base tv (stS s A d mask) zz z' := by
  have hE : stS s A d mask = { s with mem := s.mem.set (A / 4) (mrg (nth s.mem (A / 4)) d mask) } := by unfold stS; rw [if_neg (by omega), if_neg (by omega)]
  rw [hE]
  clear hE
  have hown : ∀ g, tv.ownBlock = some g → base ≤ g := fun g hg => (World.ownsRow.lt M.own g hg).1
  have htop := M.top
  have hlt := lt_of_block M.cell
  have hgl := lt_of_block M.mem
  have hne := M.ne
  have e1 : ((A : Int) == 268435456) = false := by rw [beq_eq_false_iff_ne]; omega
  have e2 : ((A : Int) == 268435460) = false := by rw [beq_eq_false_iff_ne]; omega
  have q1 : (A : Int) / 4 = ((A / 4 : Nat) : Int) := by omega
  have q2 : (A : Int).tdiv 4 = ((A / 4 : Nat) : Int) := by rw [Int.tdiv_eq_ediv_of_nonneg (by omega)]; omega
  have hq : A / 4 < 1024 := by omega
  have b1 : decide (((A / 4 : Nat) : Int) < 1024) = true := decide_eq_true (by omega)
  show Calls _ _ #[_, .agg #[.int .u32 pc, .int .u32 val, .int .i64 rd, .bool st, .int .u32 (A : Int), .int .u32 (d : Int), .int .i64 mask]] _ _
  go_enter Tryz.func29, Tryz.ntmps29
  go_wp2_with (fail)
  have R0 := Lib.hid (hl1 zz (.cells (retArr pc val rd st A d mask) 38))
  have MW := Lib.hid (M.upd0 ((Upd.refl [] zz).alloc (.cells (retArr pc val rd st A d mask) 38)))
  have UW := Lib.hid ((Upd.refl [] zz).alloc (.cells (retArr pc val rd st A d mask) 38))
  generalize hW : World.alloc zz _ = W
  have hW2 : zz.alloc (.cells (retArr pc val rd st A d mask) 38) = W := hW
  rw [hW2] at R0 MW UW
  clear hW hW2
  have n4 : ∀ x : Near [] W, x.1.cell? ⟨zz.heap.size, 4, none⟩ = some (.int .u32 (A : Int)) := fun x => by rw [cells_of (x.2.keep R0.out (by simp))]; rfl
  have n5 : ∀ x : Near [] W, x.1.cell? ⟨zz.heap.size, 5, none⟩ = some (.int .u32 (d : Int)) := fun x => by rw [cells_of (x.2.keep R0.out (by simp))]; rfl
  have n6 : ∀ x : Near [] W, x.1.cell? ⟨zz.heap.size, 6, none⟩ = some (.int .i64 mask) := fun x => by rw [cells_of (x.2.keep R0.out (by simp))]; rfl
  have n38 : ∀ x : Near [] W, x.1.cell? ⟨mb, 38, none⟩ = some (.slice (some ⟨gb, 0, none⟩) 1024 1024) := fun x => by rw [(MW.out.upd0 x.2).cAt 38, mc_tail s gb tv 0 ok.regs ok.csrs]; rfl
  have nw : ∀ x : Near [] W, x.1.cell? ⟨gb, A / 4, none⟩ = some (.int .u32 ((nth s.mem (A / 4) : Nat) : Int)) := fun x => by
    rw [cells_of (x.2.keep MW.out.mem (by simp))]; exact nums_nth .u32 s.mem _ (by rw [ok.mem]; exact hq)
  have hol : nth s.mem (A / 4) < 2 ^ 32 := nthB2 ok.mlt (by decide) _
  have hq2 : A / 4 < s.mem.length := by rw [ok.mem]; exact hq
  obtain ⟨q, hq0⟩ : ∃ q, q = A / 4 := ⟨_, rfl⟩
  rw [← hq0] at nw hol hq2 hq b1 q1 q2
  have HQ := Lib.hid hq0.symm
  clear hq0
  obtain ⟨old, ho0⟩ : ∃ old, old = nth s.mem q := ⟨_, rfl⟩
  rw [← ho0] at nw hol
  have HO := Lib.hid ho0.symm
  clear ho0
  refine wp_region_segs [([([0, 1, 2, 3, 4, 5, 6, 7, 8, 9, 10, 11, 12, 13, 14, 15, 16, 17, 18, 19, 20, 21], 22)], [23]), ([([], 24)], [])] (by kernel_rfl) (by kernel_rfl) (by kernel_rfl) (by kernel_rfl) (fun _ d _ _ _ h => by cases d <;> exact h) ?_
  refine segs_part (fun z => ∃ x : Near [] W, z = x.1) ⟨⟨_, (Upd.refl _ _).drew⟩, rfl⟩ ?_
  refine part_next ?_
  simp only [opsAt, List.map_cons, List.map_nil, List.getElem?_toArray, List.getElem?_cons_zero, List.getElem?_cons_succ, Option.getD_some]
  repeat (go_big_quiet_step (fail))
  refine wpQuiet_nil ?_
  refine part_one rfl ?_
  go_wp2_with fail
  refine (Merge_calls old d mask _ hol hd).mono ?_
  rintro e z1 ⟨rfl, rfl⟩
  go_wp2_with fail
  refine part_same ⟨⟨_, (Upd.refl _ _).drew⟩, rfl⟩ ?_
  refine part_last ?_
  simp only [opsAt, List.map_cons, List.map_nil, List.getElem?_toArray, List.getElem?_cons_zero, List.getElem?_cons_succ, Option.getD_some]
  repeat (go_big_quiet_step (fail))
  refine wpQuiet_nil ?_
  unfold partEnd
  clear n4 n5 n6 n38 nw
  refine segs_part (fun z => ∃ x : Near [gb] W, z = x.1) ⟨⟨_, (Upd.refl _ _).drew⟩, rfl⟩ ?_
  refine part_next ?_
  simp only [opsAt, List.map_cons, List.map_nil, List.getElem?_toArray, List.getElem?_cons_zero, List.getElem?_cons_succ, Option.getD_some]
  repeat (go_big_quiet_step (fail))
  refine wpQuiet_nil ?_
  refine part_one rfl ?_
  refine L_store_int 36 (.tmp 29) (.tmp 28) rfl (by kernel_rfl) gb q rfl (nums .u32 s.mem).toList 36 (show (World.drew W).heap[gb]? = _ from MW.out.mem) .u32 ((mrg old d mask : Nat) : Int) rfl info_u1 (by rw [Array.length_toList, nums_size]; exact hq2) ?_
  intro w3 b3 u3 z3
  rw [nums_set_l] at b3
  have V3 := Lib.hid (((Upd.refl [gb] W).drew).trans u3)
  have B3 := Lib.hid b3
  clear b3 u3 z3
  refine part_same ⟨⟨_, V3.out⟩, rfl⟩ ?_
  refine part_last ?_
  simp only [opsAt, List.map_cons, List.map_nil, List.getElem?_toArray, List.getElem?_cons_zero, List.getElem?_cons_succ, Option.getD_some]
  repeat (go_big_quiet_step (fail))
  refine wpQuiet_nil ?_
  unfold partEnd
  refine segs_end ?_
  go_wp2_with (fail)
  go_end0
  refine ⟨rfl, tv, ⟨?_, by rw [HQ.out, HO.out]; exact B3.out, own_upd MW.out.own V3.out (fun g hg hs => by have := hown g hg; simp at hs; omega), MW.out.ne, htop⟩, ?_, fun g hg => .inl hg⟩
  · rw [mcells_mem]; exact V3.out.keep MW.out.cell (by simp; omega)
  exact (UW.out.mono (T := mb :: gb :: tv.ownBlock.toList) (fun x hx _ => by simp at hx)).trans (V3.out.mono (T := mb :: gb :: tv.ownBlock.toList) (fun x hx _ => by simp at hx; simp [hx]))
set_option maxRecDepth 20000 in
set_option maxHeartbeats 4000000 in
theorem store_port (mb gb base : Nat) (tv : Value) (s : MSt) (zz : World) (M : MachAt mb gb base tv s zz) (ok : MOk s) (pc val rd : Int) (st : Bool) (d : Nat) (mask : Int) (hb : base ≤ zz.heap.size) (ht : s.trace.length ≤ 4000) :
    Calls Tryz.prog 29 #[.pointer (some ⟨mb, 0, none⟩), .agg (retArr pc val rd st 268435456 d mask)] zz fun e z' => e = .returned (.tuple #[]) ∧ StR mb gb base tv (stS s 268435456 d mask) zz z' := by
  have hE : stS s 268435456 d mask = { s with trace := s.trace ++ [d] } := rfl
  rw [hE]
  clear hE
  have hown : ∀ g, tv.ownBlock = some g → base ≤ g ∧ g < zz.heap.size := fun g hg => World.ownsRow.lt M.own g hg
  have htop := M.top
  have hlt := lt_of_block M.cell
  have hgl := lt_of_block M.mem
  show Calls _ _ #[_, .agg #[.int .u32 pc, .int .u32 val, .int .i64 rd, .bool st, .int .u32 268435456, .int .u32 (d : Int), .int .i64 mask]] _ _
  go_enter Tryz.func29, Tryz.ntmps29
  go_wp2_with (fail)
  have R0 := Lib.hid (hl1 zz (.cells (retArr pc val rd st 268435456 d mask) 38))
  have MW := Lib.hid (M.upd0 ((Upd.refl [] zz).alloc (.cells (retArr pc val rd st 268435456 d mask) 38)))
  have UW := Lib.hid ((Upd.refl [] zz).alloc (.cells (retArr pc val rd st 268435456 d mask) 38))
  have hWs : zz.heap.size ≤ (zz.alloc (.cells (retArr pc val rd st 268435456 d mask) 38)).heap.size := by simp
  generalize hW : World.alloc zz _ = W
  have hW2 : zz.alloc (.cells (retArr pc val rd st 268435456 d mask) 38) = W := hW
  rw [hW2] at R0 MW UW hWs
  clear hW hW2
  have hm1 : mb ∉ tv.ownBlock.toList := fun h => by have := hown mb (by simpa using h); omega
  have hm2 : zz.heap.size ∉ tv.ownBlock.toList := fun h => by have := hown zz.heap.size (by simpa using h); omega
  have hm3 : gb ∉ tv.ownBlock.toList := fun h => by have := hown gb (by simpa using h); omega
  have n5 : ∀ x : Near tv.ownBlock.toList W, x.1.cell? ⟨zz.heap.size, 5, none⟩ = some (.int .u32 (d : Int)) := fun x => by rw [cells_of (x.2.keep R0.out hm2)]; rfl
  have n39 : ∀ x : Near tv.ownBlock.toList W, x.1.cell? ⟨mb, 39, none⟩ = some tv := fun x => by
    have h1 := mc_tail s gb tv 1 ok.regs ok.csrs
    rw [cells_of (x.2.keep MW.out.cell hm1)]
    simpa using h1
  refine wp_region_segs [([([0, 1, 2, 3, 4, 5, 6], 7), ([], 8)], [9, 10]), ([([], 11)], [])] (by kernel_rfl) (by kernel_rfl) (by kernel_rfl) (by kernel_rfl) (fun _ d _ _ _ h => by cases d <;> exact h) ?_
  refine segs_part (fun z => ∃ x : Near tv.ownBlock.toList W, z = x.1) ⟨⟨_, (Upd.refl _ _).drew⟩, rfl⟩ ?_
  refine part_next ?_
  simp only [opsAt, List.map_cons, List.map_nil, List.getElem?_toArray, List.getElem?_cons_zero, List.getElem?_cons_succ, Option.getD_some]
  repeat (go_big_quiet_step (fail))
  refine wpQuiet_nil ?_
  refine part_one rfl ?_
  go_wp2_with fail
  have O2 := Lib.hid ((MW.out.own.upd ((Upd.refl [] W).alloc (.cells (nums .u32 [d]) 36)) (fun g hg => by simp at hg)))
  have V2 := Lib.hid (((Upd.refl tv.ownBlock.toList W).alloc (.cells (nums .u32 [d]) 36)).drew)
  have N2 := Lib.hid (numsAt_new W .u32 [d] 36)
  have hs2 : W.heap.size ≤ (W.alloc (.cells (nums .u32 [d]) 36)).heap.size := by simp
  refine part_same ⟨⟨_, V2.out⟩, rfl⟩ ?_
  refine part_next ?_
  simp only [opsAt, List.map_cons, List.map_nil, List.getElem?_toArray, List.getElem?_cons_zero, List.getElem?_cons_succ, Option.getD_some]
  repeat (go_big_quiet_step (fail))
  refine wpQuiet_nil ?_
  refine part_one rfl ?_
  refine L_app2 (.tmp 36) (.tmp 39) rfl (by kernel_rfl) base tv s.trace rfl (show Ow base (World.drew _) tv s.trace from O2.out) _ 1 1 [d] rfl rfl (show NumsAt (World.drew _) .u32 _ [d] from N2.out) (by simp only [List.length_cons, List.length_nil]; omega) (Nat.le_trans hb (Nat.le_trans hWs hs2)) ?_
  intro v' w5 O5 u5 hbk
  have V5 := Lib.hid (V2.out.trans u5)
  obtain ⟨A5, c5, rfl, hc1, hc2, hn5, hb5⟩ := O5.words
  have O5' := Lib.hid O5
  have HBK := Lib.hid hbk
  have hsz5 : W.heap.size ≤ w5.heap.size := V5.out.size
  clear u5 O5 hbk hc1 hc2 hn5 hb5 O2 N2
  obtain ⟨T, hT⟩ : ∃ T, T = s.trace ++ [d] := ⟨_, rfl⟩
  rw [← hT] at O5' HBK ⊢
  have HT := Lib.hid hT
  clear hT
  refine part_same ⟨⟨_, V5.out⟩, rfl⟩ ?_
  refine part_last ?_
  simp only [opsAt, List.map_cons, List.map_nil, List.getElem?_toArray, List.getElem?_cons_zero, List.getElem?_cons_succ, Option.getD_some]
  go_simp
  repeat (go_big_quiet_step (fail))
  refine wpQuiet_nil ?_
  unfold partEnd
  have B5 := Lib.hid (V5.out.keep MW.out.cell hm1)
  have G5 := Lib.hid (V5.out.keep MW.out.mem hm3)
  have c39 : w5.cell? ⟨mb, 39, none⟩ = some tv := by
    have h1 := mc_tail s gb tv 1 ok.regs ok.csrs
    rw [cells_of B5.out]; simpa using h1
  have f39 : w5.frozen? ⟨mb, 39, none⟩ = false := free_of B5.out 39
  clear n5 n39
  refine segs_part (fun z => ∃ x : Near [mb] w5, z = x.1) ⟨⟨_, (Upd.refl _ _)⟩, rfl⟩ ?_
  refine part_next ?_
  simp only [opsAt, List.map_cons, List.map_nil, List.getElem?_toArray, List.getElem?_cons_zero, List.getElem?_cons_succ, Option.getD_some]
  repeat (go_big_quiet_step (fail))
  refine wpQuiet_nil ?_
  refine part_one rfl ?_
  go_wp2_with fail
  have V6 : Hid (Upd [mb] w5 (w5.setCell ⟨mb, 39, none⟩ (.slice A5 T.length c5))) := Lib.hid ((Upd.refl _ _).setCell (p := ⟨mb, 39, none⟩) (by simp) _)
  have M6 : Hid ((w5.setCell ⟨mb, 39, none⟩ (.slice A5 T.length c5)).heap[mb]? = some (.cells (mcells { s with trace := T } gb (.slice A5 T.length c5)).toArray 63 (0, 0))) := Lib.hid (by
    rw [heap_setCell_eq B5.out, ← mset_trace s gb tv (.slice A5 T.length c5) T ok.regs ok.csrs]; simp)
  generalize hX : World.setCell w5 _ _ = X at *
  clear hX c39 f39
  refine part_same ⟨⟨_, V6.out⟩, rfl⟩ ?_
  refine part_last ?_
  simp only [opsAt, List.map_cons, List.map_nil, List.getElem?_toArray, List.getElem?_cons_zero, List.getElem?_cons_succ, Option.getD_some]
  repeat (go_big_quiet_step (fail))
  refine wpQuiet_nil ?_
  unfold partEnd
  refine segs_end ?_
  go_wp2_with (fail)
  go_end0
  have hv : ∀ g, (Value.slice A5 T.length c5).ownBlock = some g → g ≠ mb ∧ g ≠ gb := fun g hg => by
    rcases HBK.out g hg with h | h
    · have := hown g h; omega
    · have : W.heap.size ≤ g := Nat.le_trans hs2 h
      omega
  refine ⟨rfl, .slice A5 T.length c5, ⟨by rw [← HT.out]; exact M6.out, V6.out.keep G5.out (by have := MW.out.ne; simp; exact this), ?_, MW.out.ne, htop⟩, ?_, fun g hg => ?_⟩
  · show Ow base _ _ (s.trace ++ [d])
    rw [← HT.out]
    exact own_upd O5'.out V6.out (fun g hg hs => by have := hv g hg; simp at hs; omega)
  · have h1 : Upd (mb :: gb :: tv.ownBlock.toList) W w5 := V5.out.mono (fun x hx _ => by simp only [List.mem_cons]; exact .inr (.inr hx))
    exact ((UW.out.mono (T := mb :: gb :: tv.ownBlock.toList) (fun x hx _ => by simp at hx)).trans h1).trans (V6.out.mono (T := mb :: gb :: tv.ownBlock.toList) (fun x hx _ => by simp at hx; simp [hx]))
  · rcases HBK.out g hg with h | h
    · exact .inl h
    · exact .inr (Nat.le_trans hWs (Nat.le_trans hs2 h))
end Go.Proofs.YtggjmdgonjhioaaGreat
