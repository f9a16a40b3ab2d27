/- The memory's calls, as assertions. -/
import Derived.Test.YtfnemolaoijbhacDoorEnvF
import Derived.Test.YtfnemolaoijbhacDoorHeld
import Derived.Test.YtfnemolaoijbhacDoorMem2
namespace Go.Proofs.YtfnemolaoijbhacDoor
open Go.RowKit Go.Dio

section
variable {w0 : World} {As : List Ast} {w : World} (h : Env w0 As w) (h0 : Tz w0) (k : Nat) {mb b d : Nat} {l : List Nat} {f a : Nat} (hk : As[k]? = some (memA mb b d l f a))
include h h0 hk
set_option linter.unusedSectionVars false
theorem E_mbits : Calls Tryd.prog 41 #[.pointer (some ⟨mb, 0, none⟩)] w fun e w' => e = .returned (.int .i64 ((l.length : Int) * 39)) ∧ w' = w :=
  MBits_calls mb b d l f a w (h.ok k _ hk)
theorem E_mfixes : Calls Tryd.prog 40 #[.pointer (some ⟨mb, 0, none⟩)] w fun e w' => e = .returned (.int .i64 (f : Int)) ∧ w' = w :=
  MFixes_calls mb b d l f a w (h.ok k _ hk)
theorem E_mflip (c : Int) :
    Calls Tryd.prog 20 #[.pointer (some ⟨mb, 0, none⟩), .int .i64 c] w fun e w' => e = .returned (.bool (flipB l c)) ∧ Env w0 (As.set k (memA mb b d (flipL l c) f a)) w' ∧ Upd [d] w w' :=
  (MFlip_calls mb b d l f a c w (h.ok k _ hk)).mono fun _ _ ⟨he, hr, hu⟩ => ⟨he, h.set h0 k hk hu (by simp [memA]) hr rfl, hu⟩
theorem E_mload (v : Nat) (hv : v < 2 ^ 32) (hf : f < 9223372036854775806) :
    Calls Tryd.prog 22 #[.pointer (some ⟨mb, 0, none⟩), .int .u32 (v : Int)] w fun e w' => e = .returned (.tuple #[.int .u32 ((mloadV l v).1 : Int), .int .i64 ((mloadV l v).2 : Int)]) ∧ Env w0 (As.set k (memA mb b d (mloadL l v) (f + mloadF l v) a)) w' ∧ Upd [b, d] w w' :=
  (MLoad_calls mb b d l f a v w (h.ok k _ hk) hv hf).mono fun _ _ ⟨he, hr, hu⟩ => ⟨he, h.set h0 k hk hu (by simp [memA]) hr rfl, hu⟩
theorem E_mstore (v data : Nat) (mask : Int) (hv : v < 2 ^ 32) (hd : data < 2 ^ 32) (hf : f < 9223372036854775806) :
    Calls Tryd.prog 19 #[.pointer (some ⟨mb, 0, none⟩), .int .u32 (v : Int), .int .u32 (data : Int), .int .i64 mask] w fun e w' => e = .returned (.int .i64 (mstoreE l v mask : Int)) ∧ Env w0 (As.set k (memA mb b d (mstoreL l v data mask) (f + mloadF l v) a)) w' ∧ Upd [b, d] w w' :=
  (MStore_calls mb b d l f a v data mask w (h.ok k _ hk) hv hd hf).mono fun _ _ ⟨he, hr, hu⟩ => ⟨he, h.set h0 k hk hu (by simp [memA]) hr rfl, hu⟩
/-- A scrub of every word, each with one bad bit at most, from the first on. -/
theorem E_mscrub_all {n : Nat → Nat} {o : Nat → Option Nat} (ha : a = 0) (hf : f < 9223372036854770000) (hh : HeldN 1024 l n o) (hn : ∀ j, n j < 2 ^ 32) (ho : ∀ j m, o j = some m → m < 39) :
    Calls Tryd.prog 21 #[.pointer (some ⟨mb, 0, none⟩), .int .i64 1024] w fun e w' => e = .returned (.tuple #[.int .i64 (cnt o 1024 : Int), .int .i64 0]) ∧ ∃ l2, HeldN 1024 l2 n (fun _ => none) ∧ Env w0 (As.set k (memA mb b d l2 (f + cnt o 1024) 0)) w' ∧ Upd [mb, b, d] w w' := by
  subst ha
  obtain ⟨h1, h2, h3, h4, h5⟩ := scr_held (f := f) hh hn ho 1024 (Nat.le_refl _)
  refine (MScrub_calls mb b d l f 0 1024 1024 w (h.ok k _ hk) (by decide) (by decide) hf).mono ?_
  rintro e w' ⟨he, hr, hu⟩
  generalize scrN 1024 ⟨l, f, 0, 0, false⟩ = s at h1 h2 h3 h4 h5 he hr
  obtain ⟨sl, sf, sa, sx, se⟩ := s
  simp only at h1 h2 h3 h4 h5 he hr
  subst h2 h3 h4 h5
  refine ⟨he, sl, ⟨h1.1, fun j hj => by rw [h1.2 j hj]; simp only [if_pos hj]⟩, h.set h0 k hk hu (by simp [memA]) hr rfl, hu⟩
end
theorem E_mnew {w0 : World} {As : List Ast} {w : World} (h : Env w0 As w) (A : Option Addr) (ns : List Nat) (c : Nat) (hA : NumsAt w .u32 A ns) (hs : ∀ x ∈ ns, x < 2 ^ 32) (hl : ns.length ≤ 1024) :
    Calls Tryd.prog 18 #[.slice A ns.length c] w fun e w' => e = .returned (.tuple #[.pointer (some ⟨w.heap.size + 2, 0, none⟩), .int .i64 0]) ∧ Env w0 (memA (w.heap.size + 2) (w.heap.size + 1) w.heap.size (newL ns) 0 0 :: As) w' :=
  (MNew_calls A ns c w hA hs hl h.tz).mono fun _ _ ⟨he, hr, hu⟩ => ⟨he, h.add hu _ hr (by simp [memA]) (fun x hx => by
    have h1 := hr.row.blt
    have h2 := hr.row.dlt
    have h3 := (Array.getElem?_eq_some_iff.mp hr.cell).1
    simp [memA] at hx; omega)⟩
end Go.Proofs.YtfnemolaoijbhacDoor
