/- The document's words of instructions. -/
import Derived.Test.YtggjmdgonjhioaaRf5E
namespace Go.Proofs.Ytggjmdgonjhioaa
open Go.RowKit Go.Dio
set_option linter.unusedSimpArgs false
set_option linter.unusedVariables false

def codesL : List Nat := [55, 23, 111, 103, 99, 4195, 16483, 20579, 24675, 28771, 3, 4099, 8195, 16387, 20483, 35, 4131, 8227, 19, 8211, 12307, 16403, 24595, 28691, 4115, 20499, 1073762323, 51, 1073741875, 4147, 8243, 12339, 16435, 20531, 1073762355, 24627, 28723, 33554483, 33558579, 33562675, 33566771, 33570867, 33574963, 33579059, 33583155, 15, 115, 1048691, 807403635, 4211, 8307, 12403, 20595, 24691, 28787]
theorem codesL_lt (k : Nat) : nth codesL k < 2 ^ 32 := by
  by_cases h : k < 55
  · have := nth_eq codesL k h
    rw [this]
    have key : ∀ x ∈ codesL, x < 2 ^ 32 := by decide
    exact key _ (List.getElem_mem _)
  · have : nth codesL k = 0 := by unfold nth; rw [List.getD_eq_getElem?_getD, List.getElem?_eq_none (by show 55 ≤ k; omega)]; rfl
    rw [this]; decide
def encX (f w0 n r2 : Nat) : Nat :=
  if f = 85 then (w0 ||| (n / 4096 * 4096)) else
  if f = 74 then (w0 ||| (((((n / 1048576 % 2) * 2147483648) ||| ((n / 2 % 1024) * 2097152)) ||| ((n / 2048 % 2) * 1048576)) ||| ((n / 4096 % 256) * 4096))) else
  if f = 66 then (w0 ||| ((((((n / 4096 % 2) * 2147483648) ||| ((n / 32 % 64) * 33554432)) ||| ((n / 2 % 16) * 256)) ||| ((n / 2048 % 2) * 128)) ||| (r2 * 1048576))) else
  if f = 83 then (w0 ||| ((((n / 32 % 128) * 33554432) ||| ((n % 32) * 128)) ||| (r2 * 1048576))) else
  if f = 82 then (w0 ||| (r2 * 1048576)) else
  if f = 72 then (w0 ||| ((n % 32) * 1048576)) else
  if f = 73 then (w0 ||| ((n % 4096) * 1048576)) else
  if f = 67 then (w0 ||| ((n % 4096) * 1048576)) else w0
def encW (i : InstV) : Nat := encX (fmtP i.op) (nth codesL (i.op - 1) ||| i.rd * 128 ||| i.r1 * 32768) (u32 i.imm) i.r2
def encP (i : InstV) : Nat × Bool := if (decodeP (encW i)).op ≠ 0 ∧ decodeP (encW i) = i then (encW i, true) else (0, false)
theorem ev_and (n d k c m : Nat) (hn : n < 2 ^ 32) (hk : k ≤ 32) (hc : 2 ^ k - 1 = c) : bits .and .u32 ((n : Int) / (d : Int)) (c : Int) = ((n / d % 2 ^ k : Nat) : Int) := by
  have e1 : ((n : Int) / (d : Int)) = ((n / d : Nat) : Int) := by push_cast; rfl
  rw [e1, ← hc]; exact lo_and _ k (Nat.lt_of_le_of_lt (Nat.div_le_self _ _) hn) hk
theorem ev_shl (a s : Nat) (h : a * s < 2 ^ 32) : IntKind.u32.wrap ((a : Int) * (s : Int)) = ((a * s : Nat) : Int) := by
  rw [show ((a : Int) * (s : Int)) = ((a * s : Nat) : Int) by push_cast; rfl]
  exact wrap32 (Int.natCast_nonneg _) (by exact_mod_cast h)
theorem ml (x k s : Nat) (hk : 0 < k) (hs : 0 < s) (h : k * s ≤ 2 ^ 32) : x % k * s < 2 ^ 32 := Nat.lt_of_lt_of_le (Nat.mul_lt_mul_of_pos_right (Nat.mod_lt _ hk) hs) h
theorem m2 (x k s : Nat) (hk : x < k) (hs : 0 < s) (h : k * s ≤ 2 ^ 32) : x * s < 2 ^ 32 := Nat.lt_of_lt_of_le (Nat.mul_lt_mul_of_pos_right hk hs) h
theorem or_lt (a b : Nat) (ha : a < 2 ^ 32) (hb : b < 2 ^ 32) : a ||| b < 2 ^ 32 := Nat.or_lt_two_pow ha hb
set_option maxRecDepth 100000 in
theorem enc_85 (w0 n r2 : Nat) (hw : w0 < 2 ^ 32) (hn : n < 2 ^ 32) (h2 : r2 < 32) : ∃ a e : Nat, bits .andNot .u32 (n : Int) 4095 = ((a : Nat) : Int) ∧ bits .or .u32 (w0 : Int) (a : Int) = ((e : Nat) : Int) ∧ e = encX 85 w0 n r2 ∧ e < 2 ^ 32 := by
  have b_a : (n / 4096 * 4096) < 2 ^ 32 := by omega
  have b_e : (w0 ||| (n / 4096 * 4096)) < 2 ^ 32 := or_lt _ _ hw b_a
  refine ⟨(n / 4096 * 4096), (w0 ||| (n / 4096 * 4096)), ?_, ?_, rfl, b_e⟩
  · exact high12 n hn
  · exact or32 _ _ hw b_a
set_option maxRecDepth 100000 in
theorem enc_74 (w0 n r2 : Nat) (hw : w0 < 2 ^ 32) (hn : n < 2 ^ 32) (h2 : r2 < 32) : ∃ a A b B p c C q d D r e : Nat, bits .and .u32 ((n : Int) / 1048576) 1 = ((a : Nat) : Int) ∧ IntKind.u32.wrap ((a : Int) * 2147483648) = ((A : Nat) : Int) ∧ bits .and .u32 ((n : Int) / 2) 1023 = ((b : Nat) : Int) ∧ IntKind.u32.wrap ((b : Int) * 2097152) = ((B : Nat) : Int) ∧ bits .or .u32 (A : Int) (B : Int) = ((p : Nat) : Int) ∧ bits .and .u32 ((n : Int) / 2048) 1 = ((c : Nat) : Int) ∧ IntKind.u32.wrap ((c : Int) * 1048576) = ((C : Nat) : Int) ∧ bits .or .u32 (p : Int) (C : Int) = ((q : Nat) : Int) ∧ bits .and .u32 ((n : Int) / 4096) 255 = ((d : Nat) : Int) ∧ IntKind.u32.wrap ((d : Int) * 4096) = ((D : Nat) : Int) ∧ bits .or .u32 (q : Int) (D : Int) = ((r : Nat) : Int) ∧ bits .or .u32 (w0 : Int) (r : Int) = ((e : Nat) : Int) ∧ e = encX 74 w0 n r2 ∧ e < 2 ^ 32 := by
  have b_a : (n / 1048576 % 2) < 2 ^ 32 := by omega
  have b_A : ((n / 1048576 % 2) * 2147483648) < 2 ^ 32 := ml _ _ _ (by decide) (by decide) (by decide)
  have b_b : (n / 2 % 1024) < 2 ^ 32 := by omega
  have b_B : ((n / 2 % 1024) * 2097152) < 2 ^ 32 := ml _ _ _ (by decide) (by decide) (by decide)
  have b_p : (((n / 1048576 % 2) * 2147483648) ||| ((n / 2 % 1024) * 2097152)) < 2 ^ 32 := or_lt _ _ b_A b_B
  have b_c : (n / 2048 % 2) < 2 ^ 32 := by omega
  have b_C : ((n / 2048 % 2) * 1048576) < 2 ^ 32 := ml _ _ _ (by decide) (by decide) (by decide)
  have b_q : ((((n / 1048576 % 2) * 2147483648) ||| ((n / 2 % 1024) * 2097152)) ||| ((n / 2048 % 2) * 1048576)) < 2 ^ 32 := or_lt _ _ b_p b_C
  have b_d : (n / 4096 % 256) < 2 ^ 32 := by omega
  have b_D : ((n / 4096 % 256) * 4096) < 2 ^ 32 := ml _ _ _ (by decide) (by decide) (by decide)
  have b_r : (((((n / 1048576 % 2) * 2147483648) ||| ((n / 2 % 1024) * 2097152)) ||| ((n / 2048 % 2) * 1048576)) ||| ((n / 4096 % 256) * 4096)) < 2 ^ 32 := or_lt _ _ b_q b_D
  have b_e : (w0 ||| (((((n / 1048576 % 2) * 2147483648) ||| ((n / 2 % 1024) * 2097152)) ||| ((n / 2048 % 2) * 1048576)) ||| ((n / 4096 % 256) * 4096))) < 2 ^ 32 := or_lt _ _ hw b_r
  refine ⟨(n / 1048576 % 2), ((n / 1048576 % 2) * 2147483648), (n / 2 % 1024), ((n / 2 % 1024) * 2097152), (((n / 1048576 % 2) * 2147483648) ||| ((n / 2 % 1024) * 2097152)), (n / 2048 % 2), ((n / 2048 % 2) * 1048576), ((((n / 1048576 % 2) * 2147483648) ||| ((n / 2 % 1024) * 2097152)) ||| ((n / 2048 % 2) * 1048576)), (n / 4096 % 256), ((n / 4096 % 256) * 4096), (((((n / 1048576 % 2) * 2147483648) ||| ((n / 2 % 1024) * 2097152)) ||| ((n / 2048 % 2) * 1048576)) ||| ((n / 4096 % 256) * 4096)), (w0 ||| (((((n / 1048576 % 2) * 2147483648) ||| ((n / 2 % 1024) * 2097152)) ||| ((n / 2048 % 2) * 1048576)) ||| ((n / 4096 % 256) * 4096))), ?_, ?_, ?_, ?_, ?_, ?_, ?_, ?_, ?_, ?_, ?_, ?_, rfl, b_e⟩
  · exact ev_and n 1048576 1 1 0 hn (by decide) (by decide)
  · exact ev_shl _ 2147483648 b_A
  · exact ev_and n 2 10 1023 0 hn (by decide) (by decide)
  · exact ev_shl _ 2097152 b_B
  · exact or32 _ _ b_A b_B
  · exact ev_and n 2048 1 1 0 hn (by decide) (by decide)
  · exact ev_shl _ 1048576 b_C
  · exact or32 _ _ b_p b_C
  · exact ev_and n 4096 8 255 0 hn (by decide) (by decide)
  · exact ev_shl _ 4096 b_D
  · exact or32 _ _ b_q b_D
  · exact or32 _ _ hw b_r
set_option maxRecDepth 100000 in
theorem enc_66 (w0 n r2 : Nat) (hw : w0 < 2 ^ 32) (hn : n < 2 ^ 32) (h2 : r2 < 32) : ∃ a A b B p c C q d D r R s e : Nat, bits .and .u32 ((n : Int) / 4096) 1 = ((a : Nat) : Int) ∧ IntKind.u32.wrap ((a : Int) * 2147483648) = ((A : Nat) : Int) ∧ bits .and .u32 ((n : Int) / 32) 63 = ((b : Nat) : Int) ∧ IntKind.u32.wrap ((b : Int) * 33554432) = ((B : Nat) : Int) ∧ bits .or .u32 (A : Int) (B : Int) = ((p : Nat) : Int) ∧ bits .and .u32 ((n : Int) / 2) 15 = ((c : Nat) : Int) ∧ IntKind.u32.wrap ((c : Int) * 256) = ((C : Nat) : Int) ∧ bits .or .u32 (p : Int) (C : Int) = ((q : Nat) : Int) ∧ bits .and .u32 ((n : Int) / 2048) 1 = ((d : Nat) : Int) ∧ IntKind.u32.wrap ((d : Int) * 128) = ((D : Nat) : Int) ∧ bits .or .u32 (q : Int) (D : Int) = ((r : Nat) : Int) ∧ IntKind.u32.wrap ((r2 : Int) * 1048576) = ((R : Nat) : Int) ∧ bits .or .u32 (r : Int) (R : Int) = ((s : Nat) : Int) ∧ bits .or .u32 (w0 : Int) (s : Int) = ((e : Nat) : Int) ∧ e = encX 66 w0 n r2 ∧ e < 2 ^ 32 := by
  have b_a : (n / 4096 % 2) < 2 ^ 32 := by omega
  have b_A : ((n / 4096 % 2) * 2147483648) < 2 ^ 32 := ml _ _ _ (by decide) (by decide) (by decide)
  have b_b : (n / 32 % 64) < 2 ^ 32 := by omega
  have b_B : ((n / 32 % 64) * 33554432) < 2 ^ 32 := ml _ _ _ (by decide) (by decide) (by decide)
  have b_p : (((n / 4096 % 2) * 2147483648) ||| ((n / 32 % 64) * 33554432)) < 2 ^ 32 := or_lt _ _ b_A b_B
  have b_c : (n / 2 % 16) < 2 ^ 32 := by omega
  have b_C : ((n / 2 % 16) * 256) < 2 ^ 32 := ml _ _ _ (by decide) (by decide) (by decide)
  have b_q : ((((n / 4096 % 2) * 2147483648) ||| ((n / 32 % 64) * 33554432)) ||| ((n / 2 % 16) * 256)) < 2 ^ 32 := or_lt _ _ b_p b_C
  have b_d : (n / 2048 % 2) < 2 ^ 32 := by omega
  have b_D : ((n / 2048 % 2) * 128) < 2 ^ 32 := ml _ _ _ (by decide) (by decide) (by decide)
  have b_r : (((((n / 4096 % 2) * 2147483648) ||| ((n / 32 % 64) * 33554432)) ||| ((n / 2 % 16) * 256)) ||| ((n / 2048 % 2) * 128)) < 2 ^ 32 := or_lt _ _ b_q b_D
  have b_R : (r2 * 1048576) < 2 ^ 32 := m2 _ 32 _ h2 (by decide) (by decide)
  have b_s : ((((((n / 4096 % 2) * 2147483648) ||| ((n / 32 % 64) * 33554432)) ||| ((n / 2 % 16) * 256)) ||| ((n / 2048 % 2) * 128)) ||| (r2 * 1048576)) < 2 ^ 32 := or_lt _ _ b_r b_R
  have b_e : (w0 ||| ((((((n / 4096 % 2) * 2147483648) ||| ((n / 32 % 64) * 33554432)) ||| ((n / 2 % 16) * 256)) ||| ((n / 2048 % 2) * 128)) ||| (r2 * 1048576))) < 2 ^ 32 := or_lt _ _ hw b_s
  refine ⟨(n / 4096 % 2), ((n / 4096 % 2) * 2147483648), (n / 32 % 64), ((n / 32 % 64) * 33554432), (((n / 4096 % 2) * 2147483648) ||| ((n / 32 % 64) * 33554432)), (n / 2 % 16), ((n / 2 % 16) * 256), ((((n / 4096 % 2) * 2147483648) ||| ((n / 32 % 64) * 33554432)) ||| ((n / 2 % 16) * 256)), (n / 2048 % 2), ((n / 2048 % 2) * 128), (((((n / 4096 % 2) * 2147483648) ||| ((n / 32 % 64) * 33554432)) ||| ((n / 2 % 16) * 256)) ||| ((n / 2048 % 2) * 128)), (r2 * 1048576), ((((((n / 4096 % 2) * 2147483648) ||| ((n / 32 % 64) * 33554432)) ||| ((n / 2 % 16) * 256)) ||| ((n / 2048 % 2) * 128)) ||| (r2 * 1048576)), (w0 ||| ((((((n / 4096 % 2) * 2147483648) ||| ((n / 32 % 64) * 33554432)) ||| ((n / 2 % 16) * 256)) ||| ((n / 2048 % 2) * 128)) ||| (r2 * 1048576))), ?_, ?_, ?_, ?_, ?_, ?_, ?_, ?_, ?_, ?_, ?_, ?_, ?_, ?_, rfl, b_e⟩
  · exact ev_and n 4096 1 1 0 hn (by decide) (by decide)
  · exact ev_shl _ 2147483648 b_A
  · exact ev_and n 32 6 63 0 hn (by decide) (by decide)
  · exact ev_shl _ 33554432 b_B
  · exact or32 _ _ b_A b_B
  · exact ev_and n 2 4 15 0 hn (by decide) (by decide)
  · exact ev_shl _ 256 b_C
  · exact or32 _ _ b_p b_C
  · exact ev_and n 2048 1 1 0 hn (by decide) (by decide)
  · exact ev_shl _ 128 b_D
  · exact or32 _ _ b_q b_D
  · exact ev_shl _ 1048576 b_R
  · exact or32 _ _ b_r b_R
  · exact or32 _ _ hw b_s
set_option maxRecDepth 100000 in
theorem enc_83 (w0 n r2 : Nat) (hw : w0 < 2 ^ 32) (hn : n < 2 ^ 32) (h2 : r2 < 32) : ∃ a A b B p R s e : Nat, bits .and .u32 ((n : Int) / 32) 127 = ((a : Nat) : Int) ∧ IntKind.u32.wrap ((a : Int) * 33554432) = ((A : Nat) : Int) ∧ bits .and .u32 (n : Int) 31 = ((b : Nat) : Int) ∧ IntKind.u32.wrap ((b : Int) * 128) = ((B : Nat) : Int) ∧ bits .or .u32 (A : Int) (B : Int) = ((p : Nat) : Int) ∧ IntKind.u32.wrap ((r2 : Int) * 1048576) = ((R : Nat) : Int) ∧ bits .or .u32 (p : Int) (R : Int) = ((s : Nat) : Int) ∧ bits .or .u32 (w0 : Int) (s : Int) = ((e : Nat) : Int) ∧ e = encX 83 w0 n r2 ∧ e < 2 ^ 32 := by
  have b_a : (n / 32 % 128) < 2 ^ 32 := by omega
  have b_A : ((n / 32 % 128) * 33554432) < 2 ^ 32 := ml _ _ _ (by decide) (by decide) (by decide)
  have b_b : (n % 32) < 2 ^ 32 := by omega
  have b_B : ((n % 32) * 128) < 2 ^ 32 := ml _ _ _ (by decide) (by decide) (by decide)
  have b_p : (((n / 32 % 128) * 33554432) ||| ((n % 32) * 128)) < 2 ^ 32 := or_lt _ _ b_A b_B
  have b_R : (r2 * 1048576) < 2 ^ 32 := m2 _ 32 _ h2 (by decide) (by decide)
  have b_s : ((((n / 32 % 128) * 33554432) ||| ((n % 32) * 128)) ||| (r2 * 1048576)) < 2 ^ 32 := or_lt _ _ b_p b_R
  have b_e : (w0 ||| ((((n / 32 % 128) * 33554432) ||| ((n % 32) * 128)) ||| (r2 * 1048576))) < 2 ^ 32 := or_lt _ _ hw b_s
  refine ⟨(n / 32 % 128), ((n / 32 % 128) * 33554432), (n % 32), ((n % 32) * 128), (((n / 32 % 128) * 33554432) ||| ((n % 32) * 128)), (r2 * 1048576), ((((n / 32 % 128) * 33554432) ||| ((n % 32) * 128)) ||| (r2 * 1048576)), (w0 ||| ((((n / 32 % 128) * 33554432) ||| ((n % 32) * 128)) ||| (r2 * 1048576))), ?_, ?_, ?_, ?_, ?_, ?_, ?_, ?_, rfl, b_e⟩
  · exact ev_and n 32 7 127 0 hn (by decide) (by decide)
  · exact ev_shl _ 33554432 b_A
  · exact lo_and n 5 hn (by decide)
  · exact ev_shl _ 128 b_B
  · exact or32 _ _ b_A b_B
  · exact ev_shl _ 1048576 b_R
  · exact or32 _ _ b_p b_R
  · exact or32 _ _ hw b_s
set_option maxRecDepth 100000 in
theorem enc_82 (w0 n r2 : Nat) (hw : w0 < 2 ^ 32) (hn : n < 2 ^ 32) (h2 : r2 < 32) : ∃ R e : Nat, IntKind.u32.wrap ((r2 : Int) * 1048576) = ((R : Nat) : Int) ∧ bits .or .u32 (w0 : Int) (R : Int) = ((e : Nat) : Int) ∧ e = encX 82 w0 n r2 ∧ e < 2 ^ 32 := by
  have b_R : (r2 * 1048576) < 2 ^ 32 := m2 _ 32 _ h2 (by decide) (by decide)
  have b_e : (w0 ||| (r2 * 1048576)) < 2 ^ 32 := or_lt _ _ hw b_R
  refine ⟨(r2 * 1048576), (w0 ||| (r2 * 1048576)), ?_, ?_, rfl, b_e⟩
  · exact ev_shl _ 1048576 b_R
  · exact or32 _ _ hw b_R
set_option maxRecDepth 100000 in
theorem enc_72 (w0 n r2 : Nat) (hw : w0 < 2 ^ 32) (hn : n < 2 ^ 32) (h2 : r2 < 32) : ∃ a A e : Nat, bits .and .u32 (n : Int) 31 = ((a : Nat) : Int) ∧ IntKind.u32.wrap ((a : Int) * 1048576) = ((A : Nat) : Int) ∧ bits .or .u32 (w0 : Int) (A : Int) = ((e : Nat) : Int) ∧ e = encX 72 w0 n r2 ∧ e < 2 ^ 32 := by
  have b_a : (n % 32) < 2 ^ 32 := by omega
  have b_A : ((n % 32) * 1048576) < 2 ^ 32 := ml _ _ _ (by decide) (by decide) (by decide)
  have b_e : (w0 ||| ((n % 32) * 1048576)) < 2 ^ 32 := or_lt _ _ hw b_A
  refine ⟨(n % 32), ((n % 32) * 1048576), (w0 ||| ((n % 32) * 1048576)), ?_, ?_, ?_, rfl, b_e⟩
  · exact lo_and n 5 hn (by decide)
  · exact ev_shl _ 1048576 b_A
  · exact or32 _ _ hw b_A
set_option maxRecDepth 100000 in
theorem enc_73 (w0 n r2 : Nat) (hw : w0 < 2 ^ 32) (hn : n < 2 ^ 32) (h2 : r2 < 32) : ∃ a A e : Nat, bits .and .u32 (n : Int) 4095 = ((a : Nat) : Int) ∧ IntKind.u32.wrap ((a : Int) * 1048576) = ((A : Nat) : Int) ∧ bits .or .u32 (w0 : Int) (A : Int) = ((e : Nat) : Int) ∧ e = encX 73 w0 n r2 ∧ e < 2 ^ 32 := by
  have b_a : (n % 4096) < 2 ^ 32 := by omega
  have b_A : ((n % 4096) * 1048576) < 2 ^ 32 := ml _ _ _ (by decide) (by decide) (by decide)
  have b_e : (w0 ||| ((n % 4096) * 1048576)) < 2 ^ 32 := or_lt _ _ hw b_A
  refine ⟨(n % 4096), ((n % 4096) * 1048576), (w0 ||| ((n % 4096) * 1048576)), ?_, ?_, ?_, rfl, b_e⟩
  · exact lo_and n 12 hn (by decide)
  · exact ev_shl _ 1048576 b_A
  · exact or32 _ _ hw b_A
set_option maxRecDepth 100000 in
theorem enc_67 (w0 n r2 : Nat) (hw : w0 < 2 ^ 32) (hn : n < 2 ^ 32) (h2 : r2 < 32) : ∃ a A e : Nat, bits .and .u32 (n : Int) 4095 = ((a : Nat) : Int) ∧ IntKind.u32.wrap ((a : Int) * 1048576) = ((A : Nat) : Int) ∧ bits .or .u32 (w0 : Int) (A : Int) = ((e : Nat) : Int) ∧ e = encX 67 w0 n r2 ∧ e < 2 ^ 32 := by
  have b_a : (n % 4096) < 2 ^ 32 := by omega
  have b_A : ((n % 4096) * 1048576) < 2 ^ 32 := ml _ _ _ (by decide) (by decide) (by decide)
  have b_e : (w0 ||| ((n % 4096) * 1048576)) < 2 ^ 32 := or_lt _ _ hw b_A
  refine ⟨(n % 4096), ((n % 4096) * 1048576), (w0 ||| ((n % 4096) * 1048576)), ?_, ?_, ?_, rfl, b_e⟩
  · exact lo_and n 12 hn (by decide)
  · exact ev_shl _ 1048576 b_A
  · exact or32 _ _ hw b_A

theorem inst_beq (i j : InstV) : decide (i = j) = (((i.op : Int) == (j.op : Int)) && (((i.rd : Int) == (j.rd : Int)) && (((i.r1 : Int) == (j.r1 : Int)) && (((i.r2 : Int) == (j.r2 : Int)) && (i.imm == j.imm))))) := by
  cases i; cases j
  rw [Bool.eq_iff_iff]
  simp [InstV.mk.injEq]; omega
theorem inst_eql (a0 a1 a2 a3 a4 b0 b1 b2 b3 b4 : Int) (w : World) :
    (Op.equalIn 10000 65 (.agg #[.int .i64 a0, .int .i64 a1, .int .i64 a2, .int .i64 a3, .int .i32 a4])
      (.agg #[.int .i64 b0, .int .i64 b1, .int .i64 b2, .int .i64 b3, .int .i32 b4])).run Try.prog w =
      .ok (a0 == b0 && (a1 == b1 && (a2 == b2 && (a3 == b3 && a4 == b4)))) w := by
  have hs := Try.underlying65
  have h1 := run_equalIn_struct (P := Try.prog) w 9999 65 #[.int .i64 a0, .int .i64 a1, .int .i64 a2, .int .i64 a3, .int .i32 a4] #[.int .i64 b0, .int .i64 b1, .int .i64 b2, .int .i64 b3, .int .i32 b4] (by simp [Program.fieldsOf, hs]) (by kernel_rfl)
  rw [h1]
  simp only [Program.fieldsOf, hs]
  by_cases e0 : a0 = b0
  rotate_left
  · go_simp
  by_cases e1 : a1 = b1
  rotate_left
  · go_simp
  by_cases e2 : a2 = b2
  rotate_left
  · go_simp
  by_cases e3 : a3 = b3
  rotate_left
  · go_simp
  by_cases e4 : a4 = b4
  rotate_left
  · go_simp
  go_simp
theorem inst_eq (i j : InstV) (w : World) : (Op.equalIn 10000 65 (.agg i.arr) (.agg j.arr)).run Try.prog w = .ok (decide (i = j)) w := by
  rw [inst_beq]
  exact inst_eql i.op i.rd i.r1 i.r2 i.imm j.op j.rd j.r1 j.r2 j.imm w
theorem codes_calls (z : World) : Calls Try.prog 37 #[] z fun e z' => e = .returned (.slice (some ⟨z.heap.size, 0, none⟩) 55 55) ∧ z' = z.alloc (.cells (nums .u32 codesL) 31) := by
  go_enter Try.func37, Try.ntmps37
  go_wp2_with (fail)
  go_ret
  exact ⟨rfl, rfl⟩
end Go.Proofs.Ytggjmdgonjhioaa
