/- The document's words of instructions. -/
import Derived.Test.YtmdjhahafjlebaaGreatDoorQD10
import Derived.Deep.Cut
namespace Go.Proofs.YtmdjhahafjlebaaGreatDoor
open Go.RowKit Go.Dio
set_option linter.unusedSimpArgs false
set_option linter.unusedVariables false

def codesL : List Nat := [55, 23, 111, 103, 99, 4195, 16483, 20579, 24675, 28771, 3, 4099, 8195, 16387, 20483, 35, 4131, 8227, 19, 8211, 12307, 16403, 24595, 28691, 4115, 20499, 1073762323, 51, 1073741875, 4147, 8243, 12339, 16435, 20531, 1073762355, 24627, 28723, 33554483, 33558579, 33562675, 33566771, 33570867, 33574963, 33579059, 33583155, 15, 115, 1048691, 807403635, 4211, 8307, 12403, 20595, 24691, 28787]
theorem codesL_lt (k : Nat) : nth codesL k < 2 ^ 32 := by
  by_cases h : k < 55
  · have := nth_eq codesL k h
    rw [this]
    have key : ∀ x ∈ codesL, x < 2 ^ 32 := by decide
    exact key _ (List.getElem_mem _)
  · have : nth codesL k = 0 := by unfold nth; rw [List.getD_eq_getElem?_getD, List.getElem?_eq_none (by show 55 ≤ k; omega)]; rfl
    rw [this]; decide
def encX (f w0 n r2 : Nat) : Nat :=
  if f = 85 then (w0 ||| (n / 4096 * 4096)) else
  if f = 74 then (w0 ||| (((((n / 1048576 % 2) * 2147483648) ||| ((n / 2 % 1024) * 2097152)) ||| ((n / 2048 % 2) * 1048576)) ||| ((n / 4096 % 256) * 4096))) else
  if f = 66 then (w0 ||| ((((((n / 4096 % 2) * 2147483648) ||| ((n / 32 % 64) * 33554432)) ||| ((n / 2 % 16) * 256)) ||| ((n / 2048 % 2) * 128)) ||| (r2 * 1048576))) else
  if f = 83 then (w0 ||| ((((n / 32 % 128) * 33554432) ||| ((n % 32) * 128)) ||| (r2 * 1048576))) else
  if f = 82 then (w0 ||| (r2 * 1048576)) else
  if f = 72 then (w0 ||| ((n % 32) * 1048576)) else
  if f = 73 then (w0 ||| ((n % 4096) * 1048576)) else
  if f = 67 then (w0 ||| ((n % 4096) * 1048576)) else w0
def encW (i : InstV) : Nat := encX (fmtP i.op) (nth codesL (i.op - 1) ||| i.rd * 128 ||| i.r1 * 32768) (u32 i.imm) i.r2
def encP (i : InstV) : Nat × Bool := if (decodeP (encW i)).op ≠ 0 ∧ decodeP (encW i) = i then (encW i, true) else (0, false)
theorem ev_and (n d k c m : Nat) (hn : n < 2 ^ 32) (hk : k ≤ 32) (hc : 2 ^ k - 1 = c) : bits .and .u32 ((n : Int) / (d : Int)) (c : Int) = ((n / d % 2 ^ k : Nat) : Int) := by
  have e1 : ((n : Int) / (d : Int)) = ((n / d : Nat) : Int) := by push_cast; rfl
  rw [e1, ← hc]; exact lo_and _ k (Nat.lt_of_le_of_lt (Nat.div_le_self _ _) hn) hk
theorem ev_shl (a s : Nat) (h : a * s < 2 ^ 32) : IntKind.u32.wrap ((a : Int) * (s : Int)) = ((a * s : Nat) : Int) := by
  rw [show ((a : Int) * (s : Int)) = ((a * s : Nat) : Int) by push_cast; rfl]
  exact wrap32 (Int.natCast_nonneg _) (by exact_mod_cast h)
theorem ml (x k s : Nat) (hk : 0 < k) (hs : 0 < s) (h : k * s ≤ 2 ^ 32) : x % k * s < 2 ^ 32 := Nat.lt_of_lt_of_le (Nat.mul_lt_mul_of_pos_right (Nat.mod_lt _ hk) hs) h
theorem m2 (x k s : Nat) (hk : x < k) (hs : 0 < s) (h : k * s ≤ 2 ^ 32) : x * s < 2 ^ 32 := Nat.lt_of_lt_of_le (Nat.mul_lt_mul_of_pos_right hk hs) h
theorem or_lt (a b : Nat) (ha : a < 2 ^ 32) (hb : b < 2 ^ 32) : a ||| b < 2 ^ 32 := Nat.or_lt_two_pow ha hb
set_option maxRecDepth 100000 in
theorem enc_85 (w0 n r2 : Nat) (hw : w0 < 2 ^ 32) (hn : n < 2 ^ 32) (h2 : r2 < 32) : ∃ a e : Nat, bits .andNot .u32 (n : Int) 4095 = ((a : Nat) : Int) ∧ bits .or .u32 (w0 : Int) (a : Int) = ((e : Nat) : Int) ∧ e = encX 85 w0 n r2 ∧ e < 2 ^ 32 := by
  have b_a : (n / 4096 * 4096) < 2 ^ 32 := by omega
  have b_e : (w0 ||| (n / 4096 * 4096)) < 2 ^ 32 := or_lt _ _ hw b_a
  refine ⟨(n / 4096 * 4096), (w0 ||| (n / 4096 * 4096)), ?_, ?_, rfl, b_e⟩
  · exact high12 n hn
  · exact or32 _ _ hw b_a
set_option maxRecDepth 100000 in
theorem enc_74 (w0 n r2 : Nat) (hw : w0 < 2 ^ 32) (hn : n < 2 ^ 32) (h2 : r2 < 32) : ∃ a A b B p c C q d D r e : Nat, bits .and .u32 ((n : Int) / 1048576) 1 = ((a : Nat) : Int) ∧ IntKind.u32.wrap ((a : Int) * 2147483648) = ((A : Nat) : Int) ∧ bits .and .u32 ((n : Int) / 2) 1023 = ((b : Nat) : Int) ∧ IntKind.u32.wrap ((b : Int) * 2097152) = ((B : Nat) : Int) ∧ bits .or .u32 (A : Int) (B : Int) = ((p : Nat) : Int) ∧ bits .and .u32 ((n : Int) / 2048) 1 = ((c : Nat) : Int) ∧ IntKind.u32.wrap ((c : Int) * 1048576) = ((C : Nat) : Int) ∧ bits .or .u32 (p : Int) (C : Int) = ((q : Nat) : Int) ∧ bits .and .u32 ((n : Int) / 4096) 255 = ((d : Nat) : Int) ∧ IntKind.u32.wrap ((d : Int) * 4096) = ((D : Nat) : Int) ∧ bits .or .u32 (q : Int) (D : Int) = ((r : Nat) : Int) ∧ bits .or .u32 (w0 : Int) (r : Int) = ((e : Nat) : Int) ∧ e = encX 74 w0 n r2 ∧ e < 2 ^ 32 := by
  have b_a : (n / 1048576 % 2) < 2 ^ 32 := by omega
  have b_A : ((n / 1048576 % 2) * 2147483648) < 2 ^ 32 := ml _ _ _ (by decide) (by decide) (by decide)
  have b_b : (n / 2 % 1024) < 2 ^ 32 := by omega
  have b_B : ((n / 2 % 1024) * 2097152) < 2 ^ 32 := ml _ _ _ (by decide) (by decide) (by decide)
  have b_p : (((n / 1048576 % 2) * 2147483648) ||| ((n / 2 % 1024) * 2097152)) < 2 ^ 32 := or_lt _ _ b_A b_B
  have b_c : (n / 2048 % 2) < 2 ^ 32 := by omega
  have b_C : ((n / 2048 % 2) * 1048576) < 2 ^ 32 := ml _ _ _ (by decide) (by decide) (by decide)
  have b_q : ((((n / 1048576 % 2) * 2147483648) ||| ((n / 2 % 1024) * 2097152)) ||| ((n / 2048 % 2) * 1048576)) < 2 ^ 32 := or_lt _ _ b_p b_C
  have b_d : (n / 4096 % 256) < 2 ^ 32 := by omega
  have b_D : ((n / 4096 % 256) * 4096) < 2 ^ 32 := ml _ _ _ (by decide) (by decide) (by decide)
  have b_r : (((((n / 1048576 % 2) * 2147483648) ||| ((n / 2 % 1024) * 2097152)) ||| ((n / 2048 % 2) * 1048576)) ||| ((n / 4096 % 256) * 4096)) < 2 ^ 32 := or_lt _ _ b_q b_D
  have b_e : (w0 ||| (((((n / 1048576 % 2) * 2147483648) ||| ((n / 2 % 1024) * 2097152)) ||| ((n / 2048 % 2) * 1048576)) ||| ((n / 4096 % 256) * 4096))) < 2 ^ 32 := or_lt _ _ hw b_r
  refine ⟨(n / 1048576 % 2), ((n / 1048576 % 2) * 2147483648), (n / 2 % 1024), ((n / 2 % 1024) * 2097152), (((n / 1048576 % 2) * 2147483648) ||| ((n / 2 % 1024) * 2097152)), (n / 2048 % 2), ((n / 2048 % 2) * 1048576), ((((n / 1048576 % 2) * 2147483648) ||| ((n / 2 % 1024) * 2097152)) ||| ((n / 2048 % 2) * 1048576)), (n / 4096 % 256), ((n / 4096 % 256) * 4096), (((((n / 1048576 % 2) * 2147483648) ||| ((n / 2 % 1024) * 2097152)) ||| ((n / 2048 % 2) * 1048576)) ||| ((n / 4096 % 256) * 4096)), (w0 ||| (((((n / 1048576 % 2) * 2147483648) ||| ((n / 2 % 1024) * 2097152)) ||| ((n / 2048 % 2) * 1048576)) ||| ((n / 4096 % 256) * 4096))), ?_, ?_, ?_, ?_, ?_, ?_, ?_, ?_, ?_, ?_, ?_, ?_, rfl, b_e⟩
  · exact ev_and n 1048576 1 1 0 hn (by decide) (by decide)
  · exact ev_shl _ 2147483648 b_A
  · exact ev_and n 2 10 1023 0 hn (by decide) (by decide)
  · exact ev_shl _ 2097152 b_B
  · exact or32 _ _ b_A b_B
  · exact ev_and n 2048 1 1 0 hn (by decide) (by decide)
  · exact ev_shl _ 1048576 b_C
  · exact or32 _ _ b_p b_C
  · exact ev_and n 4096 8 255 0 hn (by decide) (by decide)
  · exact ev_shl _ 4096 b_D
  · exact or32 _ _ b_q b_D
  · exact or32 _ _ hw b_r
set_option maxRecDepth 100000 in
theorem enc_66 (w0 n r2 : Nat) (hw : w0 < 2 ^ 32) (hn : n < 2 ^ 32) (h2 : r2 < 32) : ∃ a A b B p c C q d D r R s e : Nat, bits .and .u32 ((n : Int) / 4096) 1 = ((a : Nat) : Int) ∧ IntKind.u32.wrap ((a : Int) * 2147483648) = ((A : Nat) : Int) ∧ bits .and .u32 ((n : Int) / 32) 63 = ((b : Nat) : Int) ∧ IntKind.u32.wrap ((b : Int) * 33554432) = ((B : Nat) : Int) ∧ bits .or .u32 (A : Int) (B : Int) = ((p : Nat) : Int) ∧ bits .and .u32 ((n : Int) / 2) 15 = ((c : Nat) : Int) ∧ IntKind.u32.wrap ((c : Int) * 256) = ((C : Nat) : Int) ∧ bits .or .u32 (p : Int) (C : Int) = ((q : Nat) : Int) ∧ bits .and .u32 ((n : Int) / 2048) 1 = ((d : Nat) : Int) ∧ IntKind.u32.wrap ((d : Int) * 128) = ((D : Nat) : Int) ∧ bits .or .u32 (q : Int) (D : Int) = ((r : Nat) : Int) ∧ IntKind.u32.wrap ((r2 : Int) * 1048576) = ((R : Nat) : Int) ∧ bits .or .u32 (r : Int) (R : Int) = ((s : Nat) : Int) ∧ bits .or .u32 (w0 : Int) (s : Int) = ((e : Nat) : Int) ∧ e = encX 66 w0 n r2 ∧ e < 2 ^ 32 := by
  have b_a : (n / 4096 % 2) < 2 ^ 32 := by omega
  have b_A : ((n / 4096 % 2) * 2147483648) < 2 ^ 32 := ml _ _ _ (by decide) (by decide) (by decide)
  have b_b : (n / 32 % 64) < 2 ^ 32 := by omega
  have b_B : ((n / 32 % 64) * 33554432) < 2 ^ 32 := ml _ _ _ (by decide) (by decide) (by decide)
  have b_p : (((n / 4096 % 2) * 2147483648) ||| ((n / 32 % 64) * 33554432)) < 2 ^ 32 := or_lt _ _ b_A b_B
  have b_c : (n / 2 % 16) < 2 ^ 32 := by omega
  have b_C : ((n / 2 % 16) * 256) < 2 ^ 32 := ml _ _ _ (by decide) (by decide) (by decide)
  have b_q : ((((n / 4096 % 2) * 2147483648) ||| ((n / 32 % 64) * 33554432)) ||| ((n / 2 % 16) * 256)) < 2 ^ 32 := or_lt _ _ b_p b_C
  have b_d : (n / 2048 % 2) < 2 ^ 32 := by omega
  have b_D : ((n / 2048 % 2) * 128) < 2 ^ 32 := ml _ _ _ (by decide) (by decide) (by decide)
  have b_r : (((((n / 4096 % 2) * 2147483648) ||| ((n / 32 % 64) * 33554432)) ||| ((n / 2 % 16) * 256)) ||| ((n / 2048 % 2) * 128)) < 2 ^ 32 := or_lt _ _ b_q b_D
  have b_R : (r2 * 1048576) < 2 ^ 32 := m2 _ 32 _ h2 (by decide) (by decide)
  have b_s : ((((((n / 4096 % 2) * 2147483648) ||| ((n / 32 % 64) * 33554432)) ||| ((n / 2 % 16) * 256)) ||| ((n / 2048 % 2) * 128)) ||| (r2 * 1048576)) < 2 ^ 32 := or_lt _ _ b_r b_R
  have b_e : (w0 ||| ((((((n / 4096 % 2) * 2147483648) ||| ((n / 32 % 64) * 33554432)) ||| ((n / 2 % 16) * 256)) ||| ((n / 2048 % 2) * 128)) ||| (r2 * 1048576))) < 2 ^ 32 := or_lt _ _ hw b_s
  refine ⟨(n / 4096 % 2), ((n / 4096 % 2) * 2147483648), (n / 32 % 64), ((n / 32 % 64) * 33554432), (((n / 4096 % 2) * 2147483648) ||| ((n / 32 % 64) * 33554432)), (n / 2 % 16), ((n / 2 % 16) * 256), ((((n / 4096 % 2) * 2147483648) ||| ((n / 32 % 64) * 33554432)) ||| ((n / 2 % 16) * 256)), (n / 2048 % 2), ((n / 2048 % 2) * 128), (((((n / 4096 % 2) * 2147483648) ||| ((n / 32 % 64) * 33554432)) ||| ((n / 2 % 16) * 256)) ||| ((n / 2048 % 2) * 128)), (r2 * 1048576), ((((((n / 4096 % 2) * 2147483648) ||| ((n / 32 % 64) * 33554432)) ||| ((n / 2 % 16) * 256)) ||| ((n / 2048 % 2) * 128)) ||| (r2 * 1048576)), (w0 ||| ((((((n / 4096 % 2) * 2147483648) ||| ((n / 32 % 64) * 33554432)) ||| ((n / 2 % 16) * 256)) ||| ((n / 2048 % 2) * 128)) ||| (r2 * 1048576))), ?_, ?_, ?_, ?_, ?_, ?_, ?_, ?_, ?_, ?_, ?_, ?_, ?_, ?_, rfl, b_e⟩
  · exact ev_and n 4096 1 1 0 hn (by decide) (by decide)
  · exact ev_shl _ 2147483648 b_A
  · exact ev_and n 32 6 63 0 hn (by decide) (by decide)
  · exact ev_shl _ 33554432 b_B
  · exact or32 _ _ b_A b_B
  · exact ev_and n 2 4 15 0 hn (by decide) (by decide)
  · exact ev_shl _ 256 b_C
  · exact or32 _ _ b_p b_C
  · exact ev_and n 2048 1 1 0 hn (by decide) (by decide)
  · exact ev_shl _ 128 b_D
  · exact or32 _ _ b_q b_D
  · exact ev_shl _ 1048576 b_R
  · exact or32 _ _ b_r b_R
  · exact or32 _ _ hw b_s
set_option maxRecDepth 100000 in
theorem enc_83 (w0 n r2 : Nat) (hw : w0 < 2 ^ 32) (hn : n < 2 ^ 32) (h2 : r2 < 32) : ∃ a A b B p R s e : Nat, bits .and .u32 ((n : Int) / 32) 127 = ((a : Nat) : Int) ∧ IntKind.u32.wrap ((a : Int) * 33554432) = ((A : Nat) : Int) ∧ bits .and .u32 (n : Int) 31 = ((b : Nat) : Int) ∧ IntKind.u32.wrap ((b : Int) * 128) = ((B : Nat) : Int) ∧ bits .or .u32 (A : Int) (B : Int) = ((p : Nat) : Int) ∧ IntKind.u32.wrap ((r2 : Int) * 1048576) = ((R : Nat) : Int) ∧ bits .or .u32 (p : Int) (R : Int) = ((s : Nat) : Int) ∧ bits .or .u32 (w0 : Int) (s : Int) = ((e : Nat) : Int) ∧ e = encX 83 w0 n r2 ∧ e < 2 ^ 32 := by
  have b_a : (n / 32 % 128) < 2 ^ 32 := by omega
  have b_A : ((n / 32 % 128) * 33554432) < 2 ^ 32 := ml _ _ _ (by decide) (by decide) (by decide)
  have b_b : (n % 32) < 2 ^ 32 := by omega
  have b_B : ((n % 32) * 128) < 2 ^ 32 := ml _ _ _ (by decide) (by decide) (by decide)
  have b_p : (((n / 32 % 128) * 33554432) ||| ((n % 32) * 128)) < 2 ^ 32 := or_lt _ _ b_A b_B
  have b_R : (r2 * 1048576) < 2 ^ 32 := m2 _ 32 _ h2 (by decide) (by decide)
  have b_s : ((((n / 32 % 128) * 33554432) ||| ((n % 32) * 128)) ||| (r2 * 1048576)) < 2 ^ 32 := or_lt _ _ b_p b_R
  have b_e : (w0 ||| ((((n / 32 % 128) * 33554432) ||| ((n % 32) * 128)) ||| (r2 * 1048576))) < 2 ^ 32 := or_lt _ _ hw b_s
  refine ⟨(n / 32 % 128), ((n / 32 % 128) * 33554432), (n % 32), ((n % 32) * 128), (((n / 32 % 128) * 33554432) ||| ((n % 32) * 128)), (r2 * 1048576), ((((n / 32 % 128) * 33554432) ||| ((n % 32) * 128)) ||| (r2 * 1048576)), (w0 ||| ((((n / 32 % 128) * 33554432) ||| ((n % 32) * 128)) ||| (r2 * 1048576))), ?_, ?_, ?_, ?_, ?_, ?_, ?_, ?_, rfl, b_e⟩
  · exact ev_and n 32 7 127 0 hn (by decide) (by decide)
  · exact ev_shl _ 33554432 b_A
  · exact lo_and n 5 hn (by decide)
  · exact ev_shl _ 128 b_B
  · exact or32 _ _ b_A b_B
  · exact ev_shl _ 1048576 b_R
  · exact or32 _ _ b_p b_R
  · exact or32 _ _ hw b_s
set_option maxRecDepth 100000 in
theorem enc_82 (w0 n r2 : Nat) (hw : w0 < 2 ^ 32) (hn : n < 2 ^ 32) (h2 : r2 < 32) : ∃ R e : Nat, IntKind.u32.wrap ((r2 : Int) * 1048576) = ((R : Nat) : Int) ∧ bits .or .u32 (w0 : Int) (R : Int) = ((e : Nat) : Int) ∧ e = encX 82 w0 n r2 ∧ e < 2 ^ 32 := by
  have b_R : (r2 * 1048576) < 2 ^ 32 := m2 _ 32 _ h2 (by decide) (by decide)
  have b_e : (w0 ||| (r2 * 1048576)) < 2 ^ 32 := or_lt _ _ hw b_R
  refine ⟨(r2 * 1048576), (w0 ||| (r2 * 1048576)), ?_, ?_, rfl, b_e⟩
  · exact ev_shl _ 1048576 b_R
  · exact or32 _ _ hw b_R
set_option maxRecDepth 100000 in
theorem enc_72 (w0 n r2 : Nat) (hw : w0 < 2 ^ 32) (hn : n < 2 ^ 32) (h2 : r2 < 32) : ∃ a A e : Nat, bits .and .u32 (n : Int) 31 = ((a : Nat) : Int) ∧ IntKind.u32.wrap ((a : Int) * 1048576) = ((A : Nat) : Int) ∧ bits .or .u32 (w0 : Int) (A : Int) = ((e : Nat) : Int) ∧ e = encX 72 w0 n r2 ∧ e < 2 ^ 32 := by
  have b_a : (n % 32) < 2 ^ 32 := by omega
  have b_A : ((n % 32) * 1048576) < 2 ^ 32 := ml _ _ _ (by decide) (by decide) (by decide)
  have b_e : (w0 ||| ((n % 32) * 1048576)) < 2 ^ 32 := or_lt _ _ hw b_A
  refine ⟨(n % 32), ((n % 32) * 1048576), (w0 ||| ((n % 32) * 1048576)), ?_, ?_, ?_, rfl, b_e⟩
  · exact lo_and n 5 hn (by decide)
  · exact ev_shl _ 1048576 b_A
  · exact or32 _ _ hw b_A
set_option maxRecDepth 100000 in
theorem enc_73 (w0 n r2 : Nat) (hw : w0 < 2 ^ 32) (hn : n < 2 ^ 32) (h2 : r2 < 32) : ∃ a A e : Nat, bits .and .u32 (n : Int) 4095 = ((a : Nat) : Int) ∧ IntKind.u32.wrap ((a : Int) * 1048576) = ((A : Nat) : Int) ∧ bits .or .u32 (w0 : Int) (A : Int) = ((e : Nat) : Int) ∧ e = encX 73 w0 n r2 ∧ e < 2 ^ 32 := by
  have b_a : (n % 4096) < 2 ^ 32 := by omega
  have b_A : ((n % 4096) * 1048576) < 2 ^ 32 := ml _ _ _ (by decide) (by decide) (by decide)
  have b_e : (w0 ||| ((n % 4096) * 1048576)) < 2 ^ 32 := or_lt _ _ hw b_A
  refine ⟨(n % 4096), ((n % 4096) * 1048576), (w0 ||| ((n % 4096) * 1048576)), ?_, ?_, ?_, rfl, b_e⟩
  · exact lo_and n 12 hn (by decide)
  · exact ev_shl _ 1048576 b_A
  · exact or32 _ _ hw b_A
set_option maxRecDepth 100000 in
theorem enc_67 (w0 n r2 : Nat) (hw : w0 < 2 ^ 32) (hn : n < 2 ^ 32) (h2 : r2 < 32) : ∃ a A e : Nat, bits .and .u32 (n : Int) 4095 = ((a : Nat) : Int) ∧ IntKind.u32.wrap ((a : Int) * 1048576) = ((A : Nat) : Int) ∧ bits .or .u32 (w0 : Int) (A : Int) = ((e : Nat) : Int) ∧ e = encX 67 w0 n r2 ∧ e < 2 ^ 32 := by
  have b_a : (n % 4096) < 2 ^ 32 := by omega
  have b_A : ((n % 4096) * 1048576) < 2 ^ 32 := ml _ _ _ (by decide) (by decide) (by decide)
  have b_e : (w0 ||| ((n % 4096) * 1048576)) < 2 ^ 32 := or_lt _ _ hw b_A
  refine ⟨(n % 4096), ((n % 4096) * 1048576), (w0 ||| ((n % 4096) * 1048576)), ?_, ?_, ?_, rfl, b_e⟩
  · exact lo_and n 12 hn (by decide)
  · exact ev_shl _ 1048576 b_A
  · exact or32 _ _ hw b_A

theorem inst_beq (i j : InstV) : decide (i = j) = (((i.op : Int) == (j.op : Int)) && (((i.rd : Int) == (j.rd : Int)) && (((i.r1 : Int) == (j.r1 : Int)) && (((i.r2 : Int) == (j.r2 : Int)) && (i.imm == j.imm))))) := by
  cases i; cases j
  rw [Bool.eq_iff_iff]
  simp [InstV.mk.injEq]; omega
theorem inst_eql (a0 a1 a2 a3 a4 b0 b1 b2 b3 b4 : Int) (w : World) :
    (Op.equalIn 10000 69 (.agg #[.int .i64 a0, .int .i64 a1, .int .i64 a2, .int .i64 a3, .int .i32 a4])
      (.agg #[.int .i64 b0, .int .i64 b1, .int .i64 b2, .int .i64 b3, .int .i32 b4])).run Tryz.prog w =
      .ok (a0 == b0 && (a1 == b1 && (a2 == b2 && (a3 == b3 && a4 == b4)))) w := by
  have hs := Tryz.underlying69
  have h1 := run_equalIn_struct (P := Tryz.prog) w 9999 69 #[.int .i64 a0, .int .i64 a1, .int .i64 a2, .int .i64 a3, .int .i32 a4] #[.int .i64 b0, .int .i64 b1, .int .i64 b2, .int .i64 b3, .int .i32 b4] (by simp [Program.fieldsOf, hs]) (by kernel_rfl)
  rw [h1]
  simp only [Program.fieldsOf, hs]
  by_cases e0 : a0 = b0
  rotate_left
  · go_simp
  by_cases e1 : a1 = b1
  rotate_left
  · go_simp
  by_cases e2 : a2 = b2
  rotate_left
  · go_simp
  by_cases e3 : a3 = b3
  rotate_left
  · go_simp
  by_cases e4 : a4 = b4
  rotate_left
  · go_simp
  go_simp
theorem inst_eq (i j : InstV) (w : World) : (Op.equalIn 10000 69 (.agg i.arr) (.agg j.arr)).run Tryz.prog w = .ok (decide (i = j)) w := by
  rw [inst_beq]
  exact inst_eql i.op i.rd i.r1 i.r2 i.imm j.op j.rd j.r1 j.r2 j.imm w
theorem codes_calls (z : World) : Calls Tryz.prog 65 #[] z fun e z' => e = .returned (.slice (some ⟨z.heap.size, 0, none⟩) 55 55) ∧ z' = z.alloc (.cells (nums .u32 codesL) 36) := by
  go_enter Tryz.func65, Tryz.ntmps65
  go_wp2_with (fail)
  go_ret
  exact ⟨rfl, rfl⟩
end Go.Proofs.YtmdjhahafjlebaaGreatDoor

namespace Go.Proofs.YtmdjhahafjlebaaGreatDoor
open Go.RowKit Go.Dio
set_option linter.unusedSimpArgs false
set_option linter.unusedVariables false

theorem fmt_pos (o : Nat) (h : o < 55) : fmtP (o + 1) ≠ 0 := by
  have key : ∀ o, o < 55 → fmtP (o + 1) ≠ 0 := by decide
  exact key o h
theorem fmt_cases (o : Nat) (h : o < 55) : fmtP (o + 1) = 85 ∨ fmtP (o + 1) = 74 ∨ fmtP (o + 1) = 66 ∨ fmtP (o + 1) = 83 ∨ fmtP (o + 1) = 82 ∨ fmtP (o + 1) = 72 ∨ fmtP (o + 1) = 73 ∨ fmtP (o + 1) = 67 ∨ fmtP (o + 1) = 78 := by
  have key : ∀ o, o < 55 → fmtP (o + 1) = 85 ∨ fmtP (o + 1) = 74 ∨ fmtP (o + 1) = 66 ∨ fmtP (o + 1) = 83 ∨ fmtP (o + 1) = 82 ∨ fmtP (o + 1) = 72 ∨ fmtP (o + 1) = 73 ∨ fmtP (o + 1) = 67 ∨ fmtP (o + 1) = 78 := by decide
  exact key o h
theorem encX_78 (w0 n r2 : Nat) : encX 78 w0 n r2 = w0 := rfl
set_option maxRecDepth 20000 in
set_option maxHeartbeats 4000000 in
theorem enc_calls (o rd r1 r2 : Nat) (imm : Int) (zz : World) (ho : o < 55) (hd : rd < 32) (h1 : r1 < 32) (h2 : r2 < 32) :
    Calls Tryz.prog 29 #[.agg (InstV.arr ⟨o + 1, rd, r1, r2, imm⟩)] zz fun e z' => e = .returned (.tuple #[.int .u32 ((encP ⟨o + 1, rd, r1, r2, imm⟩).1 : Int), .bool (encP ⟨o + 1, rd, r1, r2, imm⟩).2]) ∧ Upd [] zz z' := by
  have hfp := fmt_pos o ho
  have hfc := fmt_cases o ho
  have FC := Lib.hid (fun z => fmt_calls (o + 1) z (by omega))
  have d1 : decide ((rd : Int) < 0) = false := decide_eq_false (by omega)
  have d2 : decide ((31 : Int) < (rd : Int)) = false := decide_eq_false (by omega)
  have d3 : decide ((r1 : Int) < 0) = false := decide_eq_false (by omega)
  have d4 : decide ((31 : Int) < (r1 : Int)) = false := decide_eq_false (by omega)
  have d5 : decide ((r2 : Int) < 0) = false := decide_eq_false (by omega)
  have d6 : decide ((31 : Int) < (r2 : Int)) = false := decide_eq_false (by omega)
  have p1 : IntKind.u32.wrap (rd : Int) = (rd : Int) := wrap32 (by omega) (by omega)
  have p2 : IntKind.u32.wrap (r1 : Int) = (r1 : Int) := wrap32 (by omega) (by omega)
  have p3 : IntKind.u32.wrap (r2 : Int) = (r2 : Int) := wrap32 (by omega) (by omega)
  have s1 : IntKind.u32.wrap ((rd : Int) * 128) = ((rd * 128 : Nat) : Int) := ev_shl rd 128 (by omega)
  have s2 : IntKind.u32.wrap ((r1 : Int) * 32768) = ((r1 * 32768 : Nat) : Int) := ev_shl r1 32768 (by omega)
  have hc := codesL_lt o
  have q1 := or32 (nth codesL o) (rd * 128) hc (by omega)
  have hq1 := or_lt (nth codesL o) (rd * 128) hc (by omega)
  have q2 := or32 (nth codesL o ||| rd * 128) (r1 * 32768) hq1 (by omega)
  have hw0 := or_lt (nth codesL o ||| rd * 128) (r1 * 32768) hq1 (by omega)
  have w1 := wrap_u32 imm
  have hn := u32_lt imm
  have ee : encW ⟨o + 1, rd, r1, r2, imm⟩ = encX (fmtP (o + 1)) (nth codesL o ||| rd * 128 ||| r1 * 32768) (u32 imm) r2 := rfl
  have hQ := inst_eq
  obtain ⟨E, hE⟩ : ∃ E, E = encW ⟨o + 1, rd, r1, r2, imm⟩ := ⟨_, rfl⟩
  rw [← hE] at ee
  have HP : Hid (encP ⟨o + 1, rd, r1, r2, imm⟩ = if (decodeP E).op ≠ 0 ∧ decodeP E = ⟨o + 1, rd, r1, r2, imm⟩ then (E, true) else (0, false)) := Lib.hid (by rw [hE]; rfl)
  clear hE
  generalize encP ⟨o + 1, rd, r1, r2, imm⟩ = RES at HP ⊢
  generalize fmtP (o + 1) = f at *
  have CC : Hid (nth codesL o = nth codesL o) := Lib.hid rfl
  obtain ⟨c, hcc⟩ : ∃ c, c = nth codesL o := ⟨_, rfl⟩
  rw [← hcc] at hc q1 hq1 q2 hw0 ee
  have HC := Lib.hid hcc
  clear hcc CC
  generalize c ||| rd * 128 ||| r1 * 32768 = w0 at *
  generalize c ||| rd * 128 = w00 at *
  generalize rd * 128 = rd' at *
  generalize r1 * 32768 = r1' at *
  generalize u32 imm = n at *
  have EE := Lib.hid ee
  have HI := Lib.hid hQ
  have df : ((f : Int) == 0) = false := (cast_ne_b hfp).1
  have b1 : decide ((o : Int) < 55) = true := decide_eq_true (by omega)
  have b2 : decide ((0 : Int) ≤ (o : Int)) = true := decide_eq_true (by omega)
  clear ee hQ hfp
  have HA : InstV.arr ⟨o + 1, rd, r1, r2, imm⟩ = #[.int .i64 (((o + 1 : Nat)) : Int), .int .i64 (rd : Int), .int .i64 (r1 : Int), .int .i64 (r2 : Int), .int .i32 imm] := rfl
  rw [HA]
  go_enter Tryz.func29, Tryz.ntmps29
  go_wp2_with (fail)
  refine (FC.out _).mono ?_
  rintro e z1 ⟨rfl, rfl⟩
  go_upto_region 4 with (fail)
  have P1 := Lib.hid (hl1 zz (.cells (InstV.arr ⟨o + 1, rd, r1, r2, imm⟩) 69))
  have U := Lib.hid ((Upd.refl [] zz).alloc (.cells (InstV.arr ⟨o + 1, rd, r1, r2, imm⟩) 69))
  generalize hW : World.alloc zz _ = W
  have hW2 : zz.alloc (.cells (InstV.arr ⟨o + 1, rd, r1, r2, imm⟩) 69) = W := hW
  rw [hW2] at P1 U
  clear hW hW2 HA
  have n0 : ∀ x : Near [] W, x.1.cell? ⟨zz.heap.size, 0, none⟩ = some (.int .i64 (((o + 1 : Nat)) : Int)) := fun x => by rw [cells_of (x.2.keep P1.out (by simp))]; rfl
  have n1 : ∀ x : Near [] W, x.1.cell? ⟨zz.heap.size, 1, none⟩ = some (.int .i64 (rd : Int)) := fun x => by rw [cells_of (x.2.keep P1.out (by simp))]; rfl
  have n2 : ∀ x : Near [] W, x.1.cell? ⟨zz.heap.size, 2, none⟩ = some (.int .i64 (r1 : Int)) := fun x => by rw [cells_of (x.2.keep P1.out (by simp))]; rfl
  clear d1 d2 d3 d4 d5 d6 df
  refine wp_region_plan (fun z => ∃ x : Near [] W, z = x.1) [([1, 2, 3, 6, 7, 8, 9, 11, 12, 13, 14], 0), ([4], 5)] [10, 15, 16] (by kernel_rfl) (by kernel_rfl) (by kernel_rfl) (by kernel_rfl) (fun _ d _ _ _ h => by cases d <;> exact h) ⟨⟨W.drew, (Upd.refl _ _).drew⟩, rfl⟩ ?_
  refine plan_next ?_
  simp only [opsAt, List.map_cons, List.map_nil, List.getElem?_toArray, List.getElem?_cons_zero, List.getElem?_cons_succ, Option.getD_some]
  repeat (go_big_quiet_step (fail))
  refine wpQuiet_nil ?_
  refine plan_one rfl ?_
  go_wp2_with fail
  refine (codes_calls _).mono ?_
  rintro e z1 ⟨rfl, rfl⟩
  have V1 : Hid (Upd [] W (W.alloc (.cells (nums .u32 codesL) 36)).drew) := Lib.hid (((Upd.refl _ _).alloc _).drew)
  have K1 : Hid ((W.alloc (.cells (nums .u32 codesL) 36)).drew.heap[W.heap.size]? = some (.cells (nums .u32 codesL) 36 (0, 0))) := Lib.hid (hl1 _ _)
  go_wp2_with fail
  generalize hX : World.drew (World.alloc W _) = X
  have hX2 : (W.alloc (.cells (nums .u32 codesL) 36)).drew = X := hX
  rw [hX2] at V1 K1
  clear hX hX2
  refine plan_same ⟨⟨_, V1.out⟩, rfl⟩ ?_
  have UX := Lib.hid (U.out.trans V1.out)
  have PX := Lib.hid (V1.out.keep P1.out (by simp))
  clear n0 n1 n2 P1 U
  have n48 : X.cell? ⟨W.heap.size, o, none⟩ = some (.int .u32 (c : Int)) := by
    rw [cells_of K1.out, HC.out]
    exact nums_nth .u32 codesL o ho
  refine plan_next ?_
  simp only [opsAt, List.map_cons, List.map_nil, List.getElem?_toArray, List.getElem?_cons_zero, List.getElem?_cons_succ, Option.getD_some]
  repeat (go_big_quiet_step (fail))
  refine wpQuiet_nil ?_
  refine plan_one rfl ?_
  go_wp2_with fail
  refine plan_same ⟨⟨_, V1.out⟩, rfl⟩ ?_
  refine plan_last ?_
  simp only [opsAt, List.map_cons, List.map_nil, List.getElem?_toArray, List.getElem?_cons_zero, List.getElem?_cons_succ, Option.getD_some]
  repeat (go_big_quiet_step (fail))
  refine wpQuiet_nil ?_
  unfold planEnd
  clear n48 K1 V1
  have c3 : X.cell? ⟨zz.heap.size, 3, none⟩ = some (.int .i64 (r2 : Int)) := by rw [cells_of PX.out]; rfl
  have c4 : X.cell? ⟨zz.heap.size, 4, none⟩ = some (.int .i32 imm) := by rw [cells_of PX.out]; rfl
  clear p1 p2 s1 s2 q1 q2 hq1 hc b1 b2
  go_upto_block 0 with (fail)
  go_cut [5] (fun v5 wc => ∃ e : Nat, v5 = .int .u32 (e : Int) ∧ e < 2 ^ 32 ∧ Hid (e = encX f w0 n r2) ∧ Hid (wc = X))
  case first =>
    rcases hfc with rfl | rfl | rfl | rfl | rfl | rfl | rfl | rfl | rfl
    ·
      obtain ⟨a, e, f0, f1, he, hlt⟩ := enc_85 w0 n r2 hw0 hn h2
      have HE := Lib.hid he
      clear he
      go_wp2_with (fail)
      go_meet
      case rel => exact ⟨e, rfl, hlt, HE, Lib.hid rfl⟩
    ·
      obtain ⟨a, A, b, B, p, c, C, q, d, D, r, e, f0, f1, f2, f3, f4, f5, f6, f7, f8, f9, f10, f11, he, hlt⟩ := enc_74 w0 n r2 hw0 hn h2
      have HE := Lib.hid he
      clear he
      go_wp2_with (fail)
      go_meet
      case rel => exact ⟨e, rfl, hlt, HE, Lib.hid rfl⟩
    ·
      obtain ⟨a, A, b, B, p, c, C, q, d, D, r, R, s, e, f0, f1, f2, f3, f4, f5, f6, f7, f8, f9, f10, f11, f12, f13, he, hlt⟩ := enc_66 w0 n r2 hw0 hn h2
      have HE := Lib.hid he
      clear he
      go_wp2_with (fail)
      go_meet
      case rel => exact ⟨e, rfl, hlt, HE, Lib.hid rfl⟩
    ·
      obtain ⟨a, A, b, B, p, R, s, e, f0, f1, f2, f3, f4, f5, f6, f7, he, hlt⟩ := enc_83 w0 n r2 hw0 hn h2
      have HE := Lib.hid he
      clear he
      go_wp2_with (fail)
      go_meet
      case rel => exact ⟨e, rfl, hlt, HE, Lib.hid rfl⟩
    ·
      obtain ⟨R, e, f0, f1, he, hlt⟩ := enc_82 w0 n r2 hw0 hn h2
      have HE := Lib.hid he
      clear he
      go_wp2_with (fail)
      go_meet
      case rel => exact ⟨e, rfl, hlt, HE, Lib.hid rfl⟩
    ·
      obtain ⟨a, A, e, f0, f1, f2, he, hlt⟩ := enc_72 w0 n r2 hw0 hn h2
      have HE := Lib.hid he
      clear he
      go_wp2_with (fail)
      go_meet
      case rel => exact ⟨e, rfl, hlt, HE, Lib.hid rfl⟩
    ·
      obtain ⟨a, A, e, f0, f1, f2, he, hlt⟩ := enc_73 w0 n r2 hw0 hn h2
      have HE := Lib.hid he
      clear he
      go_wp2_with (fail)
      go_meet
      case rel => exact ⟨e, rfl, hlt, HE, Lib.hid rfl⟩
    ·
      obtain ⟨a, A, e, f0, f1, f2, he, hlt⟩ := enc_67 w0 n r2 hw0 hn h2
      have HE := Lib.hid he
      clear he
      go_wp2_with (fail)
      go_meet
      case rel => exact ⟨e, rfl, hlt, HE, Lib.hid rfl⟩
    · go_wp2_with (fail)
      go_meet
      case rel => exact ⟨w0, rfl, hw0, Lib.hid rfl, Lib.hid rfl⟩
  case rest =>
    obtain ⟨e, rfl, he, HE, HX⟩ := hcut
    obtain rfl : wc = X := HX.out
    have e2 : e = E := by rw [HE.out, EE.out]
    subst e2
    clear HE EE hfc w1 hn c3 c4 HC hw0 HX p3
    go_wp2_with (fail)
    refine (rdecode_calls e he _).mono ?_
    rintro e' w3 ⟨rfl, u3⟩
    have PZ := Lib.hid (u3.keep PX.out (by simp))
    have UZ := Lib.hid (UX.out.trans u3)
    clear u3 PX UX
    generalize decodeP e = D at HP ⊢
    by_cases hz : D.op = 0
    · have HR : Hid (RES = (0, false)) := Lib.hid (by rw [HP.out, if_neg (by simp [hz])])
      rw [show decide (D.op ≠ 0) = false by simp [hz]]
      clear hz HP
      go_wp2_with (first
        | go_skip
        | (refine L_store_new 69 (.tmp 7) (.tmp 164) rfl (by kernel_rfl) _ D.arr rfl rfl 5 info_inst rfl rfl (InstV.one _) ?_))
      go_ret2
      exact ⟨by rw [HR.out]; rfl, UZ.out.alloc _⟩
    · rw [show decide (D.op ≠ 0) = true by simp [hz]]
      by_cases hq : D = ⟨o + 1, rd, r1, r2, imm⟩
      · have HR : Hid (RES = (e, true)) := Lib.hid (by rw [HP.out, if_pos ⟨hz, hq⟩])
        have hI : ∀ w, (Op.equalIn 10000 69 (.agg D.arr) (.agg (InstV.arr ⟨o + 1, rd, r1, r2, imm⟩))).run Tryz.prog w = .ok true w := fun w => by rw [inst_eq, decide_eq_true hq]
        clear hz hq HP HI
        go_wp2_with (first
          | go_skip
          | (refine L_store_new 69 (.tmp 7) (.tmp 164) rfl (by kernel_rfl) _ D.arr rfl rfl 5 info_inst rfl rfl (InstV.one _) ?_)
          | ((with_reducible refine at_op 169 ?_); refine L_load 69 (.tmp 7) rfl (by kernel_rfl) _ _ rfl D.arr (row_range (hl1 _ _)) Tryz.underlying69 rfl 5 info_inst rfl ?_)
          | ((with_reducible refine at_op 170 ?_); refine L_load 69 (.tmp 1) rfl (by kernel_rfl) _ _ rfl (InstV.arr ⟨o + 1, rd, r1, r2, imm⟩) (row_range (heap_old PZ.out _)) Tryz.underlying69 rfl 5 info_inst rfl ?_))
        go_ret2
        exact ⟨by rw [HR.out]; rfl, UZ.out.alloc _⟩
      · have HR : Hid (RES = (0, false)) := Lib.hid (by rw [HP.out, if_neg (by simp [hq])])
        have hI : ∀ w, (Op.equalIn 10000 69 (.agg D.arr) (.agg (InstV.arr ⟨o + 1, rd, r1, r2, imm⟩))).run Tryz.prog w = .ok false w := fun w => by rw [inst_eq, decide_eq_false hq]
        clear hz hq HP HI
        go_wp2_with (first
          | go_skip
          | (refine L_store_new 69 (.tmp 7) (.tmp 164) rfl (by kernel_rfl) _ D.arr rfl rfl 5 info_inst rfl rfl (InstV.one _) ?_)
          | ((with_reducible refine at_op 169 ?_); refine L_load 69 (.tmp 7) rfl (by kernel_rfl) _ _ rfl D.arr (row_range (hl1 _ _)) Tryz.underlying69 rfl 5 info_inst rfl ?_)
          | ((with_reducible refine at_op 170 ?_); refine L_load 69 (.tmp 1) rfl (by kernel_rfl) _ _ rfl (InstV.arr ⟨o + 1, rd, r1, r2, imm⟩) (row_range (heap_old PZ.out _)) Tryz.underlying69 rfl 5 info_inst rfl ?_))
        go_ret2
        exact ⟨by rw [HR.out]; rfl, UZ.out.alloc _⟩
end Go.Proofs.YtmdjhahafjlebaaGreatDoor
