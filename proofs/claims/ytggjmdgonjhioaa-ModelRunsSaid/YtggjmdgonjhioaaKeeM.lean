/- Rows of words: made, copied onto. -/
import Derived.Test.YtggjmdgonjhioaaKee
import Derived.Laws.CopyOwn
import Derived.Laws.MakeOwn
namespace Go.Proofs.Ytggjmdgonjhioaa
open Go.RowKit Go.Dio
set_option linter.unusedSimpArgs false
set_option linter.unusedVariables false

theorem madeK_w32 (n : Nat) : madeCells #[.int .u32 0] n = nums .u32 (List.replicate n 0) := by
  apply Array.ext
  · simp [madeCells, nums]
  · intro i h1 h2
    simp [madeCells, nums, Nat.mod_one]
theorem mk_w32 (N : Nat) (hN : N ≤ 100000) (u : World) : (Instr.makeSlice 23 (.int .i64 (N : Int)) (.int .i64 (N : Int))).run Try.prog u =
    .ok (.slice (some ⟨u.heap.size, 0, none⟩) N N) (u.alloc (.cells (nums .u32 (List.replicate N 0)) 31)) := by
  have hi := info_w32k
  obtain ⟨i0, hi, hz0, hz1, hz2⟩ : ∃ i, Try.prog.info? 31 = some i ∧ i.zero = some (.int .u32 0) ∧ i.size = 1 ∧ i.bytes = 4 := by
    cases hq : Try.prog.info? 31 with
    | none => simp [hq] at hi
    | some i => simp [hq] at hi; exact ⟨i, rfl, hi.1, hi.2.1, hi.2.2⟩
  have h := run_make (P := Try.prog) u 23 31 i0 (.int .u32 0) Try.underlying23 hi hz0 .i64 .i64 (N : Int) (N : Int) (by omega) (Int.le_refl _) (by rw [hz2]; omega) (by omega)
  rw [Int.toNat_natCast] at h
  rw [← madeK_w32]
  simpa [hz1, Value.cells] using h
theorem numsK_vals (k : IntKind) (l : List Nat) : (nums k l).toList = vals k l := by simp [nums, vals]
theorem splice_nums (n : Nat) (l : List Nat) (h : l.length ≤ n) : (splice (nums .u32 (List.replicate n 0)).toList 0 (vals .u32 l)).toArray = nums .u32 (l ++ List.replicate (n - l.length) 0) := by
  have e : splice (nums .u32 (List.replicate n 0)).toList 0 (vals .u32 l) = (nums .u32 (l ++ List.replicate (n - l.length) 0)).toList := by
    rw [numsK_vals, numsK_vals, vals_append]
    simp [splice, vals]
  rw [e]
/-- A row copied onto a new one of zeros. -/
theorem L_cpy {ops : Array Oper} {rest : List Oper} {o : Oper} {a : Act} {w : World} {Q : Exit → Act → World → Prop} (hgd : o.guard = none) (d s : Operand)
    (ho : o.op = .call { callee := .builtin .copy, args := #[d, s], argTypes := #[23, 23] }) (g n : Nat) (Z : List Nat) (hZ : Z = List.replicate n 0) (hd : a.eval d = .slice (some ⟨g, 0, none⟩) n n)
    (A : Option Addr) (m c : Nat) (l : List Nat) (hs : a.eval s = .slice A m c) (hm : l.length = m) (hA : NumsAt w .u32 A l) (hg : w.heap[g]? = some (.cells (nums .u32 Z) 31 (0, 0))) (hlast : w.heap.size = g + 1) (hn : l.length ≤ n)
    (h : ∀ w', w'.heap[g]? = some (.cells (nums .u32 (l ++ List.replicate (n - l.length) 0)) 31 (0, 0)) → Upd [g] w w' → wpList Try.prog ops Q rest (a.put o.dst (goInt l.length)) w') :
    wpList Try.prog ops Q (o :: rest) a w := by
  subst hZ hm
  refine wpList_copy_splice hgd d s 23 23 ho 31 Try.underlying23 (by kernel_rfl) (some ⟨g, 0, none⟩) A n n l.length c hd hs g 0 (nums .u32 (List.replicate n 0)).toList 31 hg (vals .u32 l) (by rw [vals_length]; exact (Nat.min_eq_left hn).symm) (fun h0 => ?_) (by rw [vals_length, numsK_vals, vals_length, List.length_replicate]; omega) (vals_one _ _) g w (Below.refl _ _) (Nat.le_refl _) ?_
  · rw [vals_length] at h0
    obtain ⟨b, o', hA', _, hc⟩ := hA h0
    refine ⟨rfl, _, hA', fun j v hv => ?_⟩
    have hj : j < l.length := by have := (List.getElem?_eq_some_iff.1 hv).1; rwa [vals_length] at this
    rw [Addr.add_mid, hc j hj, ← hv, nth_eq l j hj]
    simp [vals, hj]
  · intro w' hg' hb
    rw [vals_length]
    refine h w' (by rw [hg'.out, splice_nums n l hn]) ⟨hb.os, hb.tape, hb.output, hb.size, fun k hk hne => hb.block k ?_⟩
    simp at hne
    omega
theorem Ow.of_block {base g : Nat} {w : World} {l : List Nat} (h : w.heap[g]? = some (.cells (nums .u32 l) 31 (0, 0))) (hb : base ≤ g) (hl : l.length ≤ 5000) : Ow base w (.slice (some ⟨g, 0, none⟩) l.length l.length) l :=
  ⟨by simp [vals], .inr ⟨g, l.length, nums .u32 l, rfl, hb, h, Nat.le_refl _, by simp only [maxLen]; omega, by rw [nums_size]; omega, List.take_of_length_le (by rw [Array.length_toList, nums_size]; omega)⟩⟩
theorem ex_rep (n : Nat) (hn : n ≤ 100000) : ∃ Z : List Nat, Z = List.replicate n 0 ∧ ∀ u : World, (Instr.makeSlice 23 (.int .i64 (n : Int)) (.int .i64 (n : Int))).run Try.prog u = .ok (.slice (some ⟨u.heap.size, 0, none⟩) n n) (u.alloc (.cells (nums .u32 Z) 31)) := ⟨_, rfl, mk_w32 n hn⟩
end Go.Proofs.Ytggjmdgonjhioaa
