/- Rows of words: made, copied onto. -/
import Derived.Test.YtmdjhahafjlebaaGreatDoorQD13
import Derived.Laws.CopyOwn
import Derived.Laws.MakeOwn
import Derived.Test.YtmdjhahafjlebaaGreatDoorQD32
namespace Go.Proofs.YtmdjhahafjlebaaGreatDoor
open Go.RowKit Go.Dio
set_option linter.unusedSimpArgs false
set_option linter.unusedVariables false

theorem madeK_w32 (n : Nat) : madeCells #[.int .u32 0] n = nums .u32 (List.replicate n 0) := by
  apply Array.ext
  · simp [madeCells, nums]
  · intro i h1 h2
    simp [madeCells, nums, Nat.mod_one]
theorem mk_w32 (N : Nat) (hN : N ≤ 100000) (u : World) : (Instr.makeSlice 23 (.int .i64 (N : Int)) (.int .i64 (N : Int))).run Tryz.prog u =
    .ok (.slice (some ⟨u.heap.size, 0, none⟩) N N) (u.alloc (.cells (nums .u32 (List.replicate N 0)) 36)) := by
  have hi := info_w32k
  obtain ⟨i0, hi, hz0, hz1, hz2⟩ : ∃ i, Tryz.prog.info? 36 = some i ∧ i.zero = some (.int .u32 0) ∧ i.size = 1 ∧ i.bytes = 4 := by
    cases hq : Tryz.prog.info? 36 with
    | none => simp [hq] at hi
    | some i => simp [hq] at hi; exact ⟨i, rfl, hi.1, hi.2.1, hi.2.2⟩
  have h := run_make (P := Tryz.prog) u 23 36 i0 (.int .u32 0) Tryz.underlying23 hi hz0 .i64 .i64 (N : Int) (N : Int) (by omega) (Int.le_refl _) (by rw [hz2]; omega) (by omega)
  rw [Int.toNat_natCast] at h
  rw [← madeK_w32]
  simpa [hz1, Value.cells] using h
theorem numsK_vals (k : IntKind) (l : List Nat) : (nums k l).toList = vals k l := by simp [nums, vals]
theorem splice_nums (n : Nat) (l : List Nat) (h : l.length ≤ n) : (splice (nums .u32 (List.replicate n 0)).toList 0 (vals .u32 l)).toArray = nums .u32 (l ++ List.replicate (n - l.length) 0) := by
  have e : splice (nums .u32 (List.replicate n 0)).toList 0 (vals .u32 l) = (nums .u32 (l ++ List.replicate (n - l.length) 0)).toList := by
    rw [numsK_vals, numsK_vals, vals_append]
    simp [splice, vals]
  rw [e]
/-- A row copied onto a new one of zeros. -/
theorem L_cpy {ops : Array Oper} {rest : List Oper} {o : Oper} {a : Act} {w : World} {Q : Exit → Act → World → Prop} (hgd : o.guard = none) (d s : Operand)
    (ho : o.op = .call { callee := .builtin .copy, args := #[d, s], argTypes := #[23, 23] }) (g n : Nat) (Z : List Nat) (hZ : Z = List.replicate n 0) (hd : a.eval d = .slice (some ⟨g, 0, none⟩) n n)
    (A : Option Addr) (m c : Nat) (l : List Nat) (hs : a.eval s = .slice A m c) (hm : l.length = m) (hA : NumsAt w .u32 A l) (hg : w.heap[g]? = some (.cells (nums .u32 Z) 36 (0, 0))) (hlast : w.heap.size = g + 1) (hn : l.length ≤ n)
    (h : ∀ w', w'.heap[g]? = some (.cells (nums .u32 (l ++ List.replicate (n - l.length) 0)) 36 (0, 0)) → Upd [g] w w' → wpList Tryz.prog ops Q rest (a.put o.dst (goInt l.length)) w') :
    wpList Tryz.prog ops Q (o :: rest) a w := by
  subst hZ hm
  refine wpList_copy_splice hgd d s 23 23 ho 36 Tryz.underlying23 (by kernel_rfl) (some ⟨g, 0, none⟩) A n n l.length c hd hs g 0 (nums .u32 (List.replicate n 0)).toList 36 hg (vals .u32 l) (by rw [vals_length]; exact (Nat.min_eq_left hn).symm) (fun h0 => ?_) (by rw [vals_length, numsK_vals, vals_length, List.length_replicate]; omega) (vals_one _ _) g w (Below.refl _ _) (Nat.le_refl _) ?_
  · rw [vals_length] at h0
    obtain ⟨b, o', hA', _, hc⟩ := hA h0
    refine ⟨rfl, _, hA', fun j v hv => ?_⟩
    have hj : j < l.length := by have := (List.getElem?_eq_some_iff.1 hv).1; rwa [vals_length] at this
    rw [Addr.add_mid, hc j hj, ← hv, nth_eq l j hj]
    simp [vals, hj]
  · intro w' hg' hb
    rw [vals_length]
    refine h w' (by rw [hg'.out, splice_nums n l hn]) ⟨hb.os, hb.tape, hb.output, hb.size, fun k hk hne => hb.block k ?_⟩
    simp at hne
    omega
theorem Ow.of_block {base g : Nat} {w : World} {l : List Nat} (h : w.heap[g]? = some (.cells (nums .u32 l) 36 (0, 0))) (hb : base ≤ g) (hl : l.length ≤ 5000) : Ow base w (.slice (some ⟨g, 0, none⟩) l.length l.length) l :=
  ⟨by simp [vals], .inr ⟨g, l.length, nums .u32 l, rfl, hb, h, Nat.le_refl _, by simp only [maxLen]; omega, by rw [nums_size]; omega, List.take_of_length_le (by rw [Array.length_toList, nums_size]; omega)⟩⟩
theorem ex_rep (n : Nat) (hn : n ≤ 100000) : ∃ Z : List Nat, Z = List.replicate n 0 ∧ ∀ u : World, (Instr.makeSlice 23 (.int .i64 (n : Int)) (.int .i64 (n : Int))).run Tryz.prog u = .ok (.slice (some ⟨u.heap.size, 0, none⟩) n n) (u.alloc (.cells (nums .u32 Z) 36)) := ⟨_, rfl, mk_w32 n hn⟩
end Go.Proofs.YtmdjhahafjlebaaGreatDoor

namespace Go.Proofs.YtmdjhahafjlebaaGreatDoor
open Go.RowKit Go.Dio
set_option linter.unusedSimpArgs false
set_option linter.unusedVariables false

def mcells (s : MSt) (gb : Nat) (tv : Value) : List Value :=
  .int .u32 (s.pc : Int) :: (vals .u32 s.regs ++ (vals .u32 s.csrs ++ [.slice (some ⟨gb, 0, none⟩) 1024 1024, tv, .bool s.halted, .int .u32 (s.code : Int), .int .i64 (s.steps : Int)]))
/-- What a machine's numbers are. -/
structure MOk (s : MSt) : Prop where
  regs : s.regs.length = 32
  csrs : s.csrs.length = 5
  mem : s.mem.length = 1024
  pc : s.pc < 2 ^ 32
  rlt : ∀ x ∈ s.regs, x < 2 ^ 32
  clt : ∀ x ∈ s.csrs, x < 2 ^ 32
  mlt : ∀ x ∈ s.mem, x < 2 ^ 32
  tlt : ∀ x ∈ s.trace, x < 2 ^ 32
  code : s.code < 2 ^ 32
theorem mc_pc (s : MSt) (gb : Nat) (tv : Value) : (mcells s gb tv)[0]? = some (.int .u32 (s.pc : Int)) := rfl
theorem mc_reg (s : MSt) (gb : Nat) (tv : Value) (j : Nat) (hr : s.regs.length = 32) (hj : j < 32) : (mcells s gb tv)[1 + j]? = some (.int .u32 ((nth s.regs j : Nat) : Int)) := by
  have h : j < s.regs.length := by omega
  rw [mcells, Nat.add_comm, List.getElem?_cons_succ, List.getElem?_append_left (by rw [vals_length]; exact h), nth_eq _ _ h]
  simp [vals, h]
theorem mc_csr (s : MSt) (gb : Nat) (tv : Value) (j : Nat) (hr : s.regs.length = 32) (hc : s.csrs.length = 5) (hj : j < 5) : (mcells s gb tv)[33 + j]? = some (.int .u32 ((nth s.csrs j : Nat) : Int)) := by
  have h : j < s.csrs.length := by omega
  rw [mcells, show 33 + j = (32 + j) + 1 by omega, List.getElem?_cons_succ, List.getElem?_append_right (by rw [vals_length]; omega), vals_length, hr, show 32 + j - 32 = j by omega,
    List.getElem?_append_left (by rw [vals_length]; exact h), nth_eq _ _ h]
  simp [vals, h]
theorem mc_tail (s : MSt) (gb : Nat) (tv : Value) (j : Nat) (hr : s.regs.length = 32) (hc : s.csrs.length = 5) :
    (mcells s gb tv)[38 + j]? = [Value.slice (some ⟨gb, 0, none⟩) 1024 1024, tv, .bool s.halted, .int .u32 (s.code : Int), .int .i64 (s.steps : Int)][j]? := by
  rw [mcells, show 38 + j = (32 + (5 + j)) + 1 by omega, List.getElem?_cons_succ, List.getElem?_append_right (by rw [vals_length]; omega), vals_length, hr, show 32 + (5 + j) - 32 = 5 + j by omega,
    List.getElem?_append_right (by rw [vals_length]; omega), vals_length, hc, show 5 + j - 5 = j by omega]
theorem info_state : (Tryz.prog.info? 53).map (·.size) = some 39 := by kernel_rfl
/-- What is loaded does not matter where nothing is. -/
theorem doI_word (pc w a b : Nat) (cs : List Nat) (v v' : Nat) (D : InstV) (x : Nat) (h : LdI D a x false) : doI pc w a b cs v D = doI pc w a b cs v' D := by
  have h2 := h.2 rfl
  unfold doI
  have hm : 11 ≤ D.op ∧ D.op ≤ 18 → moveP pc a b cs D v = moveP pc a b cs D v' := by
    intro hop
    unfold moveP
    by_cases hb : (accessP D.op (u32 ((a : Int) + D.imm))).2 = true
    · rw [if_pos hb, if_pos hb]
    · rw [if_neg hb, if_neg hb]
      have : ¬ D.op ≤ 15 := by
        rcases h2 with h | h | h
        · omega
        · omega
        · exact absurd h hb
      rw [if_neg this, if_neg this]
  by_cases hop : 11 ≤ D.op ∧ D.op ≤ 18
  · simp only [hm hop]
  · simp only [if_neg hop]
end Go.Proofs.YtmdjhahafjlebaaGreatDoor

namespace Go.Proofs.YtmdjhahafjlebaaGreatDoor
open Go.RowKit Go.Dio
set_option linter.unusedSimpArgs false
set_option linter.unusedVariables false

theorem nthB2 {l : List Nat} {B : Nat} (h : ∀ x ∈ l, x < B) (hB : 0 < B) (k : Nat) : nth l k < B := by
  by_cases hk : k < l.length
  · rw [nth_eq l k hk]; exact h _ (List.getElem_mem hk)
  · rw [show nth l k = 0 by simp [nth, show l.length ≤ k by omega]]; exact hB
theorem access_in {op addr : Nat} (h : (accessP op addr).2 = false) (h1 : 11 ≤ op) (h2 : op ≤ 15) : addr < 4096 := by
  have hf := access_ok h ⟨h1, by omega⟩
  unfold accessP at h
  have hs : sizeP op ≠ 0 := by
    rcases (by omega : op = 11 ∨ op = 12 ∨ op = 13 ∨ op = 14 ∨ op = 15) with rfl | rfl | rfl | rfl | rfl <;> decide
  rw [if_neg hs, if_neg (by rw [hf]; decide)] at h
  by_cases hc : addr < 4096 ∨ (op = 18 ∧ devP addr = true)
  · omega
  · rw [if_neg hc] at h; cases h
/-- The worlds near one in which a cell holds a number. -/
def CelN (b : Nat) (W : World) : Type := { w' : World // Upd [b] W w' ∧ w'.cell? ⟨b, 1, none⟩ = W.cell? ⟨b, 1, none⟩ }
instance (b : Nat) (W : World) : Nonempty (CelN b W) := ⟨⟨W, Upd.refl _ _, rfl⟩⟩
end Go.Proofs.YtmdjhahafjlebaaGreatDoor
