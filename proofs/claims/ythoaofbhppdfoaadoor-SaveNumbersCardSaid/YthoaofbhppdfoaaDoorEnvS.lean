/- The checkpoints' calls, as assertions. -/
import Derived.Test.YthoaofbhppdfoaaDoorEnvF
import Derived.Test.YthoaofbhppdfoaaDoorSvP
namespace Go.Proofs.YthoaofbhppdfoaaDoor
open Go.RowKit Go.Dio

/-- Two blocks that are known whole. -/
def blk2 (b1 : Nat) (c1 : List Value) (T1 : TypeId) (b2 : Nat) (c2 : List Value) (T2 : TypeId) : Ast :=
  ⟨[b1, b2], fun w => w.heap[b1]? = some (.cells c1.toArray T1 (0, 0)) ∧ w.heap[b2]? = some (.cells c2.toArray T2 (0, 0)), fun _ _ _ h u hb _ => ⟨u.keep h.1 (hb b1 (by simp)), u.keep h.2 (hb b2 (by simp))⟩⟩

section
variable {w0 : World} {As : List Ast} {w : World} (h : Env w0 As w) (h0 : Tz w0) (k : Nat) {T : TypeId} {sb b d : Nat} {l : List Nat} {f a : Nat} (hk : As[k]? = some (holdA T sb b d l f a))
include h h0 hk
set_option linter.unusedSectionVars false
theorem E_sbits : Calls Tryd.prog 17 #[.pointer (some ⟨sb, 0, none⟩)] w fun e w' => e = .returned (.int .i64 ((l.length : Int) * 39)) ∧ w' = w :=
  SBits_calls T sb b d l f a w (h.ok k _ hk)
theorem E_sflip (c : Int) :
    Calls Tryd.prog 13 #[.pointer (some ⟨sb, 0, none⟩), .int .i64 c] w fun e w' => e = .returned (.bool (flipB l c)) ∧ Env w0 (As.set k (holdA T sb b d (flipL l c) f a)) w' ∧ Upd [d] w w' :=
  (SFlip_calls T sb b d l f a c w (h.ok k _ hk)).mono fun _ _ ⟨he, hr, hu⟩ => ⟨he, h.set h0 k hk hu (by simp [holdA]) hr rfl, hu⟩
theorem E_sscrub (hl : l.length = 79) (ha : a < 79) (hf : f < 9223372036854775806) :
    Calls Tryd.prog 11 #[.pointer (some ⟨sb, 0, none⟩)] w fun e w' => e = .returned (.int .i64 ((peekL l (a : Int)).2 : Int)) ∧ Env w0 (As.set k (holdA T sb b d (getL l (a : Int)) (f + getF l (a : Int)) ((a + 1) % 79))) w' ∧ Upd [sb, b, d] w w' := by
  have := SScrub_calls T sb b d l f a w (h.ok k _ hk) (by omega) (by omega) hf
  rw [hl] at this
  exact this.mono fun _ _ ⟨he, hr, hu⟩ => ⟨he, h.set h0 k hk hu (by simp [holdA]) hr rfl, hu⟩
theorem E_ssave (pc : Nat) (regs csrs : List Nat) (n : Int) (hl : l.length = 79) (hf : f < 9223372036854775806) (hr : regs.length = 32) (hc : csrs.length = 5) (hp : pc < 2 ^ 32) (hrs : ∀ x ∈ regs, x < 2 ^ 32) (hcs : ∀ x ∈ csrs, x < 2 ^ 32) (hn : -9223372036854775808 ≤ n ∧ n ≤ 9223372036854775807) :
    Calls Tryd.prog 15 #[.pointer (some ⟨sb, 0, none⟩), .int .u32 (pc : Int), .agg (nums .u32 regs), .agg (nums .u32 csrs), .int .i64 n] w fun e w' => e = .returned (.tuple #[]) ∧ Env w0 (As.set k (holdA T sb b d (saveW l (saveV pc regs csrs n)) (f + getF l 78) a)) w' ∧ Upd [b, d] w w' :=
  (SSave_calls T sb b d l f a pc regs csrs n w (h.ok k _ hk) hl hf hr hc hp hrs hcs hn.1 hn.2).mono fun _ w' ⟨he, hr, hu⟩ => ⟨he, by
    rw [saveL_eq] at hr
    generalize saveW l (saveV pc regs csrs n) = l2 at hr ⊢
    exact h.set h0 k hk hu (by simp [holdA]) hr rfl, hu⟩
theorem E_sload (hl : l.length = 79) (hf : f < 9223372036854760000) :
    Calls Tryd.prog 9 #[.pointer (some ⟨sb, 0, none⟩)] w fun e w' => e = .returned (loadV l) ∧ Env w0 (As.set k (holdA T sb b d (loadL l) (f + loadF l) a)) w' ∧ Upd [b, d] w w' :=
  (SLoad_calls T sb b d l f a w (h.ok k _ hk) hl hf).mono fun _ _ ⟨he, hr, hu⟩ => ⟨he, h.set h0 k hk hu (by simp [holdA]) hr rfl, hu⟩
end
theorem E_snew {w0 : World} {As : List Ast} {w : World} (h : Env w0 As w) :
    Calls Tryd.prog 7 #[] w fun e w' => e = .returned (.pointer (some ⟨w.heap.size + 2, 0, none⟩)) ∧ Env w0 (holdA 47 (w.heap.size + 2) (w.heap.size + 1) w.heap.size (svRow zeroC zeroC 0) 0 0 :: As) w' :=
  (SNew_calls w h.tz).mono fun _ _ ⟨he, hr, hu⟩ => ⟨he, h.add hu _ (by rw [← newS_eq]; exact hr) (by simp [holdA]) (fun x hx => by
    have h1 := hr.row.blt
    have h2 := hr.row.dlt
    have h3 := hr.slt
    simp [holdA] at hx; omega)⟩
theorem loadL_len (l : List Nat) : (loadL l).length = l.length := by unfold loadL; split <;> simp only [gets_len, getL_len]
theorem saveW_len (l V : List Nat) : (saveW l V).length = l.length := by rw [saveW, putL_len, puts_len, getL_len]
theorem getsF_le' (l : List Nat) (a n : Nat) : getsF l a n ≤ n := getsF_le l a n
theorem loadF_le (l : List Nat) : loadF l ≤ 79 := by
  have h1 : getF l 78 ≤ 1 := by unfold getF; split <;> omega
  have h2 := getsF_le (getL l 78) (39 * latP l) 39
  have h3 := getsF_le (gets (getL l 78) (39 * latP l) 39) (39 * (1 - latP l)) 39
  unfold loadF; split <;> omega
end Go.Proofs.YthoaofbhppdfoaaDoor
