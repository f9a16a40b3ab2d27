/- The document's memory's calls, as assertions. -/
import Derived.Test.YtfnemolaoijbhacDoorEnvM
import Derived.Test.YtfnemolaoijbhacDoorRMem3
namespace Go.Proofs.YtfnemolaoijbhacDoor
open Go.RowKit Go.Dio

section
variable {w0 : World} {As : List Ast} {w : World} (h : Env w0 As w) (h0 : Tz w0) (k : Nat) {mb b d : Nat} {l : List Nat} {f a : Nat} (hk : As[k]? = some (rmemA mb b d l f a))
include h h0 hk
set_option linter.unusedSectionVars false
theorem E_rmflip (c : Int) :
    Calls Tryd.prog 28 #[.pointer (some ⟨b, 0, none⟩), .int .i64 c] w fun e w' => e = .returned (.bool (flipB l c)) ∧ Env w0 (As.set k (rmemA mb b d (flipL l c) f a)) w' ∧ Upd [d] w w' :=
  (RFlip_calls _ b d l f c w (h.ok k _ hk).row).mono fun _ _ ⟨he, hr, hu⟩ => ⟨he, h.set h0 k hk hu (by simp [rmemA]) ((h.ok k _ hk).step hr hu (by simp)) rfl, hu⟩
theorem E_rmscrub (n : Int) (N : Nat) (hN : (N : Int) = max 0 (min n 1024)) (ha : a < 1024) (hf : f < 9223372036854770000) :
    Calls Tryd.prog 44 #[.pointer (some ⟨mb, 0, none⟩), .int .i64 n] w fun e w' => e = .returned (.tuple #[.int .i64 ((if (scrN N ⟨l, f, a, 0, false⟩).e then 0 else (scrN N ⟨l, f, a, 0, false⟩).x : Nat) : Int), .int .i64 ((if (scrN N ⟨l, f, a, 0, false⟩).e then 25 else 0 : Nat) : Int)]) ∧
      Env w0 (As.set k (rmemA mb b d (scrN N ⟨l, f, a, 0, false⟩).l (scrN N ⟨l, f, a, 0, false⟩).f (scrN N ⟨l, f, a, 0, false⟩).a)) w' ∧ Upd [mb, b, d] w w' :=
  (RMScrub_calls mb b d l f a n N w (h.ok k _ hk) hN ha hf).mono fun _ _ ⟨he, hr, hu⟩ => ⟨he, h.set h0 k hk hu (by simp [rmemA]) hr rfl, hu⟩
theorem E_rmload (v : Nat) (hv : v < 2 ^ 32) (hf : f < 9223372036854775806) :
    Calls Tryd.prog 45 #[.pointer (some ⟨mb, 0, none⟩), .int .u32 (v : Int)] w fun e w' => e = .returned (.tuple #[.int .u32 ((mloadV l v).1 : Int), .int .i64 ((mloadV l v).2 : Int)]) ∧ Env w0 (As.set k (rmemA mb b d (mloadL l v) (f + mloadF l v) a)) w' ∧ Upd [b, d] w w' :=
  (RMLoad_calls mb b d l f a v w (h.ok k _ hk) hv hf).mono fun _ _ ⟨he, hr, hu⟩ => ⟨he, h.set h0 k hk hu (by simp [rmemA]) hr rfl, hu⟩
theorem E_rmstore (v data : Nat) (mask : Int) (hv : v < 2 ^ 32) (hd : data < 2 ^ 32) (hf : f < 9223372036854775806) :
    Calls Tryd.prog 43 #[.pointer (some ⟨mb, 0, none⟩), .int .u32 (v : Int), .int .u32 (data : Int), .int .i64 mask] w fun e w' => e = .returned (.int .i64 (mstoreE l v mask : Int)) ∧ Env w0 (As.set k (rmemA mb b d (mstoreL l v data mask) (f + mloadF l v) a)) w' ∧ Upd [b, d] w w' :=
  (RMStore_calls mb b d l f a v data mask w (h.ok k _ hk) hv hd hf).mono fun _ _ ⟨he, hr, hu⟩ => ⟨he, h.set h0 k hk hu (by simp [rmemA]) hr rfl, hu⟩
end
theorem E_rmnew {w0 : World} {As : List Ast} {w : World} (h : Env w0 As w) (A : Option Addr) (ns : List Nat) (c : Nat) (hA : NumsAt w .u32 A ns) (hs : ∀ x ∈ ns, x < 2 ^ 32) (hl : ns.length ≤ 1024) :
    Calls Tryd.prog 42 #[.slice A ns.length c] w fun e w' => e = .returned (.pointer (some ⟨w.heap.size + 2, 0, none⟩)) ∧ Env w0 (rmemA (w.heap.size + 2) (w.heap.size + 1) w.heap.size (newL ns) 0 0 :: As) w' :=
  (RMNew_calls A ns c w hA hs hl h.tz).mono fun _ _ ⟨he, hr, hu⟩ => ⟨he, h.add hu _ hr (by simp [rmemA]) (fun x hx => by
    have h1 := hr.row.blt
    have h2 := hr.row.dlt
    have h3 := (Array.getElem?_eq_some_iff.mp hr.cell).1
    simp [rmemA] at hx; omega)⟩
section
variable {w0 : World} {As : List Ast} {w : World} (h : Env w0 As w) (h0 : Tz w0) (k : Nat) {mb b d : Nat} {l : List Nat} {f a : Nat} (hk : As[k]? = some (memA mb b d l f a))
include h h0 hk
theorem E_mscrub (n : Int) (N : Nat) (hN : (N : Int) = max 0 (min n 1024)) (ha : a < 1024) (hf : f < 9223372036854770000) :
    Calls Tryd.prog 21 #[.pointer (some ⟨mb, 0, none⟩), .int .i64 n] w fun e w' => e = .returned (.tuple #[.int .i64 ((if (scrN N ⟨l, f, a, 0, false⟩).e then 0 else (scrN N ⟨l, f, a, 0, false⟩).x : Nat) : Int), .int .i64 ((if (scrN N ⟨l, f, a, 0, false⟩).e then 25 else 0 : Nat) : Int)]) ∧
      Env w0 (As.set k (memA mb b d (scrN N ⟨l, f, a, 0, false⟩).l (scrN N ⟨l, f, a, 0, false⟩).f (scrN N ⟨l, f, a, 0, false⟩).a)) w' ∧ Upd [mb, b, d] w w' :=
  (MScrub_calls mb b d l f a n N w (h.ok k _ hk) hN ha hf).mono fun _ _ ⟨he, hr, hu⟩ => ⟨he, h.set h0 k hk hu (by simp [memA]) hr rfl, hu⟩
end
end Go.Proofs.YtfnemolaoijbhacDoor
