/- Registers, and the document's own row, as assertions: their calls. -/
import Derived.Test.YthoaofbhppdfoaaDoorFile2
import Derived.Test.YthoaofbhppdfoaaDoorRowE
namespace Go.Proofs.YthoaofbhppdfoaaDoor
open Go.RowKit Go.Dio

section
variable {w0 : World} {As : List Ast} {w : World} (h : Env w0 As w) (h0 : Tz w0) (k : Nat)
include h h0
section
end
section
variable {b d : Nat} {l : List Nat} {f : Nat} (hk : As[k]? = some (rowA 62 b d l f))
include hk
theorem E_rput (i : Int) (v : Nat) (hv : v < 2 ^ 32) :
    Calls Tryd.prog 29 #[.pointer (some ⟨b, 0, none⟩), .int .i64 i, .int .u32 (v : Int)] w fun e w' => e = .returned (.bool (inn l i)) ∧ Env w0 (As.set k (rowA 62 b d (putL l i v) f)) w' ∧ Upd [d] w w' :=
  (RPut_calls _ b d l f i v w (h.ok k _ hk) hv).mono fun _ _ ⟨he, hr, hu⟩ => ⟨he, h.set h0 k hk hu (by simp [rowA]) hr rfl, hu⟩
theorem E_rget (i : Int) (hf : f < 9223372036854775806) :
    Calls Tryd.prog 24 #[.pointer (some ⟨b, 0, none⟩), .int .i64 i] w fun e w' => e = .returned (.tuple #[.int .u32 ((peekL l i).1 : Int), .int .i64 ((peekL l i).2 : Int)]) ∧ Env w0 (As.set k (rowA 62 b d (getL l i) (f + getF l i))) w' ∧ Upd [b, d] w w' :=
  (RGet_calls _ b d l f i w (h.ok k _ hk) hf).mono fun _ _ ⟨he, hr, hu⟩ => ⟨he, h.set h0 k hk hu (by simp [rowA]) hr rfl, hu⟩
theorem E_rflip (c : Int) :
    Calls Tryd.prog 14 #[.pointer (some ⟨b, 0, none⟩), .int .i64 c] w fun e w' => e = .returned (.bool (flipB l c)) ∧ Env w0 (As.set k (rowA 62 b d (flipL l c) f)) w' ∧ Upd [d] w w' :=
  (RFlip_calls _ b d l f c w (h.ok k _ hk)).mono fun _ _ ⟨he, hr, hu⟩ => ⟨he, h.set h0 k hk hu (by simp [rowA]) hr rfl, hu⟩
end
end

theorem E_rnew {w0 : World} {As : List Ast} {w : World} (h : Env w0 As w) (n : Int) (N : Nat) (hN : (N : Int) = max 0 (min n 2048)) :
    Calls Tryd.prog 20 #[.int .i64 n] w fun e w' => e = .returned (.pointer (some ⟨w.heap.size + 1, 0, none⟩)) ∧ Env w0 (rowA 62 (w.heap.size + 1) w.heap.size (List.replicate N 0) 0 :: As) w' :=
  (RNew_calls n N w h.tz hN).mono fun _ _ ⟨he, hr, hu⟩ => ⟨he, h.add hu _ hr (by simp [rowA]) (fun x hx => by
    have h1 := hr.blt
    have h2 := hr.dlt
    simp [rowA] at hx; omega)⟩
end Go.Proofs.YthoaofbhppdfoaaDoor
