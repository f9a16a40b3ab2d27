/- Law 13: MemoryStores. -/
import Derived.Test.YtfnemolaoijbhadDoorL13k
import Derived.Test.YtfnemolaoijbhadDoorInts
import Derived.Deep.LoopGhost
namespace Go.Proofs.YtfnemolaoijbhadDoor
open Go.RowKit Go.Dio
set_option linter.unusedSimpArgs false
set_option linter.unusedVariables false

theorem nth_rep13 (n j : Nat) : nth (List.replicate n 0) j = 0 := by
  unfold nth
  rw [List.getD, List.getElem?_replicate]
  split <;> rfl
theorem and15u (z : Nat) : bits .and .u32 (z : Int) 15 = (z : Int) % 16 := by
  have e : bits .and .u32 (z : Int) 15 = IntKind.u32.wrap (((BitVec.ofInt 32 (z : Int)) &&& (BitVec.ofInt 32 15)).toNat : Int) := rfl
  have h1 : (BitVec.ofInt 32 15 : BitVec 32).toNat = 2 ^ 4 - 1 := by decide
  rw [BitVec.toNat_and, h1, Nat.and_two_pow_sub_one_eq_mod] at e
  rw [e, BitVec.toNat_ofInt]
  have w1 : IntKind.u32.wrap ((((z : Int) % ((2 ^ 32 : Nat) : Int)).toNat % 2 ^ 4 : Nat) : Int) = ((((z : Int) % ((2 ^ 32 : Nat) : Int)).toNat % 2 ^ 4 : Nat) : Int) := wrap32 (by omega) (by omega)
  rw [w1]
  omega
theorem wrap39 {m r : Nat} (hm : m < 16) (hr : r < 39) : RowKit.wrap64 (RowKit.wrap64 (39 * (m : Int)) + (r : Int)) = 39 * (m : Int) + (r : Int) := by
  have e : RowKit.wrap64 (39 * (m : Int)) = 39 * (m : Int) := by unfold RowKit.wrap64; omega
  rw [e]
  unfold RowKit.wrap64
  omega
theorem pick39 (z : Int) : ∃ (m r t : Nat) (M X R Y : Int), m < 16 ∧ r < 39 ∧ Y = ((39 * m + r : Nat) : Int) ∧ bits .and .i64 (z / 64) 15 = M ∧ RowKit.wrap64 (39 * M) = X ∧ bits .and .i64 z 63 = (t : Int) ∧ (t : Int) % 39 = R ∧ RowKit.wrap64 (X + R) = Y := by
  obtain ⟨t, ht, hat⟩ := andi63 z
  refine ⟨(z / 64 % 16).toNat, t % 39, t, _, _, _, _, by omega, by omega, ?_, rfl, rfl, hat, rfl, rfl⟩
  rw [and15]
  unfold RowKit.wrap64
  omega
theorem cnt_one {m t : Nat} : ∀ k, cnt (fun j => if j = m then some t else none) k = if m < k then 1 else 0
  | 0 => by simp [cnt]
  | k + 1 => by
    rw [cnt, cnt_one k]
    by_cases e : k = m
    · subst e; simp
    · have : (m < k + 1) ↔ (m < k) := by omega
      simp only [if_neg e, this]; simp
theorem addr_ok {k : Nat} (hk : k < 1024) : mayE (4 * k) = 0 ∧ 4 * k / 4 = k := ⟨by unfold mayE; rw [if_neg (by omega), if_neg (by omega)], by omega⟩
theorem nth_lt2 {v : List Nat} (hv : ∀ x ∈ v, x < 2 ^ 32) (j : Nat) : nth v j < 2 ^ 32 := nth_lt hv (by decide) j
theorem held_load {l v : List Nat} (h : HeldN 1024 l (nth v) (fun _ => none)) (hv : ∀ x ∈ v, x < 2 ^ 32) {k : Nat} (hk : k < 1024) :
    mloadV l (4 * k) = (nth v k, 0) ∧ mloadL l (4 * k) = l ∧ mloadF l (4 * k) = 0 := by
  obtain ⟨e, q⟩ := addr_ok hk
  have hl := h.1
  have p : peekL l (k : Int) = (nth v k, 0) := by rw [peek_nat' (by omega), h.2 k hk, dec_wd (nth_lt2 hv k) (by simp)]; rfl
  obtain ⟨g1, g2⟩ := getL_other (l := l) (i := (k : Int)) (by rw [p]; simp)
  exact ⟨by rw [mloadV, e, q, p]; simp, by rw [mloadL, e, q, g1]; simp, by rw [mloadF, e, q, g2]; simp⟩
theorem held_store {l v : List Nat} (h : HeldN 1024 l (nth v) (fun _ => none)) (hv : ∀ x ∈ v, x < 2 ^ 32) {k x : Nat} (hk : k < v.length) (hl : v.length ≤ 1024) (hx : x < 2 ^ 32) :
    mstoreE l (4 * k) 15 = 0 ∧ mloadF l (4 * k) = 0 ∧ HeldN 1024 (mstoreL l (4 * k) x 15) (nth (v.set k x)) (fun _ => none) := by
  obtain ⟨e, q⟩ := addr_ok (k := k) (by omega)
  obtain ⟨-, -, e2⟩ := held_load h hv (k := k) (by omega)
  have p : peekL l (k : Int) = (nth v k, 0) := by rw [peek_nat' (by have := h.1; omega), h.2 k (by omega), dec_wd (nth_lt2 hv k) (by simp)]; rfl
  obtain ⟨g1, g2⟩ := getL_other (l := l) (i := (k : Int)) (by rw [p]; simp)
  refine ⟨by rw [mstoreE, e, q, p]; simp, e2, ?_⟩
  have e3 : mstoreL l (4 * k) x 15 = l.set k (enc x) := by
    rw [mstoreL, e, q, p, g1, mrg_full (nth_lt2 hv k) hx (by decide), put_nat (by have := h.1; omega)]; simp
  rw [e3]
  exact h.set (by omega) (by rw [nth_set_eq hk]; simp [wd]) (fun j hj hne => ⟨nth_set_ne (fun h => hne h.symm), rfl⟩)
theorem held_flip {l v : List Nat} (h : HeldN 1024 l (nth v) (fun _ => none)) {k m : Nat} (hk : k < 1024) (hm : m < 39) :
    flipB l ((39 * k + m : Nat) : Int) = true ∧ HeldN 1024 (flipL l ((39 * k + m : Nat) : Int)) (nth v) (fun j => if j = k then some m else none) := by
  obtain ⟨a, b⟩ := flip_nat (l := l) (c := 39 * k + m) (k := k) (m := m) (by have := h.1; omega) rfl hm
  refine ⟨a, ?_⟩
  rw [b]
  exact h.set hk (by rw [h.2 k hk]; simp [wd]) (fun j hj hne => ⟨rfl, by simp only [if_neg hne]⟩)
end Go.Proofs.YtfnemolaoijbhadDoor
