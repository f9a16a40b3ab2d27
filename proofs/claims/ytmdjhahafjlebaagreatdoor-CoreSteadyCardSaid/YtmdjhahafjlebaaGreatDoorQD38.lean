/- A plain machine: its record, changed. -/
import Derived.Test.YtmdjhahafjlebaaGreatDoorQD37
import Derived.Test.YtmdjhahafjlebaaGreatDoorQD05
namespace Go.Proofs.YtmdjhahafjlebaaGreatDoor
open Go.RowKit Go.Dio
set_option linter.unusedSimpArgs false
set_option linter.unusedVariables false

theorem vals_set (k : IntKind) (l : List Nat) (j n : Nat) : (vals k l).set j (.int k (n : Int)) = vals k (l.set j n) := by simp [vals, List.map_set]
theorem mset_pc (s : MSt) (gb : Nat) (tv : Value) (n : Nat) : (mcells s gb tv).set 0 (.int .u32 (n : Int)) = mcells { s with pc := n } gb tv := rfl
theorem mset_reg (s : MSt) (gb : Nat) (tv : Value) (j n : Nat) (hr : s.regs.length = 32) (hj : j < 32) : (mcells s gb tv).set (1 + j) (.int .u32 (n : Int)) = mcells { s with regs := s.regs.set j n } gb tv := by
  rw [mcells, Nat.add_comm, List.set_cons_succ, List.set_append_left _ _ (by rw [vals_length]; omega), vals_set]
  rfl
theorem mset_tail (s : MSt) (gb : Nat) (tv : Value) (j : Nat) (v : Value) (hr : s.regs.length = 32) (hc : s.csrs.length = 5) :
    (mcells s gb tv).set (38 + j) v = .int .u32 (s.pc : Int) :: (vals .u32 s.regs ++ (vals .u32 s.csrs ++ [Value.slice (some ⟨gb, 0, none⟩) 1024 1024, tv, .bool s.halted, .int .u32 (s.code : Int), .int .i64 (s.steps : Int)].set j v)) := by
  rw [mcells, show 38 + j = (32 + (5 + j)) + 1 by omega, List.set_cons_succ, List.set_append_right _ _ (by rw [vals_length]; omega), vals_length, hr, show 32 + (5 + j) - 32 = 5 + j by omega,
    List.set_append_right _ _ (by rw [vals_length]; omega), vals_length, hc, show 5 + j - 5 = j by omega]
theorem mset_trace (s : MSt) (gb : Nat) (tv tv' : Value) (t : List Nat) (hr : s.regs.length = 32) (hc : s.csrs.length = 5) : (mcells s gb tv).set 39 tv' = mcells { s with trace := t } gb tv' := mset_tail s gb tv 1 tv' hr hc
theorem mset_halted (s : MSt) (gb : Nat) (tv : Value) (b : Bool) (hr : s.regs.length = 32) (hc : s.csrs.length = 5) : (mcells s gb tv).set 40 (.bool b) = mcells { s with halted := b } gb tv := mset_tail s gb tv 2 _ hr hc
theorem mset_code (s : MSt) (gb : Nat) (tv : Value) (n : Nat) (hr : s.regs.length = 32) (hc : s.csrs.length = 5) : (mcells s gb tv).set 41 (.int .u32 (n : Int)) = mcells { s with code := n } gb tv := mset_tail s gb tv 3 _ hr hc
theorem mset_steps (s : MSt) (gb : Nat) (tv : Value) (n : Nat) (hr : s.regs.length = 32) (hc : s.csrs.length = 5) : (mcells s gb tv).set 42 (.int .i64 (n : Int)) = mcells { s with steps := n } gb tv := mset_tail s gb tv 4 _ hr hc
theorem mcells_mem (s : MSt) (gb : Nat) (tv : Value) (m : List Nat) : mcells { s with mem := m } gb tv = mcells s gb tv := rfl
theorem mcells_len (s : MSt) (gb : Nat) (tv : Value) (hr : s.regs.length = 32) (hc : s.csrs.length = 5) : (mcells s gb tv).length = 43 := by
  simp [mcells, vals_length, hr, hc]
theorem drop2 (A B C : List Value) (hA : A.length = 33) (hB : B.length = 5) : (A ++ (B ++ C)).drop (33 + 5) = C := by
  rw [← List.append_assoc]; exact List.drop_left' (by rw [List.length_append, hA, hB])
theorem mspl_csr (s : MSt) (gb : Nat) (tv : Value) (cs : List Nat) (hr : s.regs.length = 32) (hc : s.csrs.length = 5) (hl : cs.length = 5) : spl (mcells s gb tv) 33 (vals .u32 cs) = mcells { s with csrs := cs } gb tv := by
  have e : mcells s gb tv = (.int .u32 (s.pc : Int) :: vals .u32 s.regs) ++ (vals .u32 s.csrs ++ [Value.slice (some ⟨gb, 0, none⟩) 1024 1024, tv, .bool s.halted, .int .u32 (s.code : Int), .int .i64 (s.steps : Int)]) := rfl
  have h1 : (Value.int .u32 (s.pc : Int) :: vals .u32 s.regs).length = 33 := by simp [vals_length, hr]
  have h2 : (vals .u32 s.csrs).length = 5 := by rw [vals_length, hc]
  have h3 : (vals .u32 cs).length = 5 := by rw [vals_length, hl]
  unfold spl
  rw [e, h3, List.take_append_of_le_length (by omega), List.take_of_length_le (by omega), drop2 _ _ _ h1 h2, List.append_assoc]
  rfl
/-- Append, and where the row lies then. -/
theorem L_app2 {ops : Array Oper} {rest : List Oper} {o : Oper} {a : Act} {w : World} {Q : Exit → Act → World → Prop} (s x : Operand)
    (ho : o.op = .call { callee := .builtin .append, args := #[s, x], argTypes := #[23, 23] }) (hw : Region.wanted o (yielded ops a.tmps) = true)
    (base : Nat) (v : Value) (l : List Nat) (hs : a.eval s = v) (hO : Ow base w v l)
    (A : Option Addr) (m c : Nat) (ml : List Nat) (hx : a.eval x = .slice A m c) (hm : m = ml.length) (hA : NumsAt w .u32 A ml) (hl : l.length + ml.length ≤ 5000) (hbase : base ≤ w.heap.size)
    (h : ∀ v' w', Ow base w' v' (l ++ ml) → Upd v.ownBlock.toList w w' → (∀ g, v'.ownBlock = some g → v.ownBlock = some g ∨ w.heap.size ≤ g) → wpList Tryz.prog ops Q rest (a.put o.dst v') w') :
    wpList Tryz.prog ops Q (o :: rest) a w := by
  subst hm
  refine L_append w s x 23 ho hw base 36 _ 1 4 Tryz.underlying23 info_w32k rfl (by omega) v l.length (vals .u32 l) hs hO A ml.length c (vals .u32 ml) hx (by simp [vals]) (srcAt_nums hA) (vals_one _ _) (by simp only [maxLen]; omega) (by omega) hbase ?_
  intro v' w' own g hb
  refine h v' w' ?_ (upd_grown g) (fun k hk => ?_)
  · unfold Ow
    rw [vals_append, List.length_append]
    exact own
  · rcases hb with hb | hb
    · exact .inl (by rw [← hb]; exact hk)
    · rw [hb] at hk; injection hk with hk; exact .inr (by omega)
/-- What a store does to a machine. -/
def stS (s : MSt) (A d : Nat) (mask : Int) : MSt :=
  if A = 268435456 then { s with trace := s.trace ++ [d] }
  else if A = 268435460 then { s with halted := true, code := d }
  else { s with mem := s.mem.set (A / 4) (mrg (nth s.mem (A / 4)) d mask) }
def retArr (pc val rd : Int) (st : Bool) (A d : Nat) (mask : Int) : Array Value := #[.int .u32 pc, .int .u32 val, .int .i64 rd, .bool st, .int .u32 (A : Int), .int .u32 (d : Int), .int .i64 mask]
theorem info_b1 : (Tryz.prog.info? 4).map (·.size) = some 1 := by kernel_rfl
end Go.Proofs.YtmdjhahafjlebaaGreatDoor

namespace Go.Proofs.YtmdjhahafjlebaaGreatDoor
open Go.RowKit Go.Dio
set_option linter.unusedSimpArgs false
set_option linter.unusedVariables false

theorem nums_set_l (l : List Nat) (q n : Nat) : ((nums .u32 l).toList.set q (.int .u32 (n : Int))).toArray = nums .u32 (l.set q n) := by
  rw [numsK_vals, vals_set, ← numsK_vals]
end Go.Proofs.YtmdjhahafjlebaaGreatDoor
