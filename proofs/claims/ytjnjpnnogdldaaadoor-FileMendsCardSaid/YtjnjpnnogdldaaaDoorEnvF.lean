/- Registers, and the document's own row, as assertions: their calls. -/
import Derived.Test.YtjnjpnnogdldaaaDoorFile2
import Derived.Test.YtjnjpnnogdldaaaDoorRowE
namespace Go.Proofs.YtjnjpnnogdldaaaDoor
open Go.RowKit Go.Dio

theorem E_fbits {w0 : World} {As : List Ast} {w : World} (h : Env w0 As w) (_ : Tz w0) (k : Nat) {fb b d : Nat} {l : List Nat} {f a : Nat} (hk : As[k]? = some (fileA fb b d l f a)) :
    Calls Tryd.prog 80 #[.pointer (some ⟨fb, 0, none⟩)] w fun e w' => e = .returned (.int .i64 ((l.length : Int) * 39)) ∧ w' = w :=
  FBits_calls fb b d l f a w (h.ok k _ hk)
theorem E_fall {w0 : World} {As : List Ast} {w : World} (h : Env w0 As w) (_ : Tz w0) (k : Nat) {fb b d : Nat} {l : List Nat} {f a : Nat} (hk : As[k]? = some (fileA fb b d l f a)) (hl : l.length = 31) :
    Calls Tryd.prog 45 #[.pointer (some ⟨fb, 0, none⟩)] w fun e w' => e = .returned (.tuple #[.agg (nums .u32 (if allB l then allV l else zeros 32)), .bool (allB l)]) ∧ Env w0 As w' ∧ Upd [] w w' :=
  (FAll_calls fb b d l f a w (h.ok k _ hk) hl).mono fun _ _ ⟨he, hb⟩ => ⟨he, h.near (Upd.of_below hb), Upd.of_below hb⟩
theorem E_rpeek {w0 : World} {As : List Ast} {w : World} (h : Env w0 As w) (_ : Tz w0) (k : Nat) {b d : Nat} {l : List Nat} {f : Nat} (hk : As[k]? = some (rowA 100 b d l f)) (i : Int) :
    Calls Tryd.prog 76 #[.pointer (some ⟨b, 0, none⟩), .int .i64 i] w fun e w' => e = .returned (.tuple #[.int .u32 ((peekL l i).1 : Int), .int .i64 ((peekL l i).2 : Int)]) ∧ w' = w :=
  RPeek_calls _ b d l f i w (h.ok k _ hk)
section
variable {w0 : World} {As : List Ast} {w : World} (h : Env w0 As w) (h0 : Tz w0) (k : Nat)
include h h0
section
variable {fb b d : Nat} {l : List Nat} {f a : Nat} (hk : As[k]? = some (fileA fb b d l f a))
include hk
theorem E_fwrite (i : Int) (v : Nat) (hi : -9223372036854775808 ≤ i ∧ i ≤ 9223372036854775807) (hv : v < 2 ^ 32) :
    Calls Tryd.prog 43 #[.pointer (some ⟨fb, 0, none⟩), .int .i64 i, .int .u32 (v : Int)] w fun e w' => e = .returned (.bool (wrB l i)) ∧ Env w0 (As.set k (fileA fb b d (wrL l i v) f a)) w' ∧ Upd [d] w w' :=
  (FWrite_calls fb b d l f a i v w (h.ok k _ hk) hi.1 hi.2 hv).mono fun _ _ ⟨he, hr, hu⟩ => ⟨he, h.set h0 k hk hu (by simp [fileA]) hr rfl, hu⟩
theorem E_fread (i : Int) (hi : -9223372036854775808 ≤ i ∧ i ≤ 9223372036854775807) (hf : f < 9223372036854775806) :
    Calls Tryd.prog 47 #[.pointer (some ⟨fb, 0, none⟩), .int .i64 i] w fun e w' => e = .returned (.tuple #[.int .u32 ((rdV l i).1 : Int), .int .i64 ((rdV l i).2 : Int)]) ∧ Env w0 (As.set k (fileA fb b d (rdL l i) (f + rdF l i) a)) w' ∧ Upd [b, d] w w' :=
  (FRead_calls fb b d l f a i w (h.ok k _ hk) hi.1 hi.2 hf).mono fun _ _ ⟨he, hr, hu⟩ => ⟨he, h.set h0 k hk hu (by simp [fileA]) hr rfl, hu⟩
theorem E_fflip (c : Int) :
    Calls Tryd.prog 44 #[.pointer (some ⟨fb, 0, none⟩), .int .i64 c] w fun e w' => e = .returned (.bool (flipB l c)) ∧ Env w0 (As.set k (fileA fb b d (flipL l c) f a)) w' ∧ Upd [d] w w' :=
  (FFlip_calls fb b d l f a c w (h.ok k _ hk)).mono fun _ _ ⟨he, hr, hu⟩ => ⟨he, h.set h0 k hk hu (by simp [fileA]) hr rfl, hu⟩
theorem E_fscrub (hl : 0 < l.length) (ha : a < 2048) (hf : f < 9223372036854775806) :
    Calls Tryd.prog 46 #[.pointer (some ⟨fb, 0, none⟩)] w fun e w' => e = .returned (.int .i64 ((peekL l (a : Int)).2 : Int)) ∧ Env w0 (As.set k (fileA fb b d (getL l (a : Int)) (f + getF l (a : Int)) ((a + 1) % l.length))) w' ∧ Upd [fb, b, d] w w' :=
  (FScrub_calls fb b d l f a w (h.ok k _ hk) hl ha hf).mono fun _ _ ⟨he, hr, hu⟩ => ⟨he, h.set h0 k hk hu (by simp [fileA]) hr rfl, hu⟩
end
section
variable {b d : Nat} {l : List Nat} {f : Nat} (hk : As[k]? = some (rowA 100 b d l f))
include hk
theorem E_rput (i : Int) (v : Nat) (hv : v < 2 ^ 32) :
    Calls Tryd.prog 75 #[.pointer (some ⟨b, 0, none⟩), .int .i64 i, .int .u32 (v : Int)] w fun e w' => e = .returned (.bool (inn l i)) ∧ Env w0 (As.set k (rowA 100 b d (putL l i v) f)) w' ∧ Upd [d] w w' :=
  (RPut_calls _ b d l f i v w (h.ok k _ hk) hv).mono fun _ _ ⟨he, hr, hu⟩ => ⟨he, h.set h0 k hk hu (by simp [rowA]) hr rfl, hu⟩
theorem E_rget (i : Int) (hf : f < 9223372036854775806) :
    Calls Tryd.prog 77 #[.pointer (some ⟨b, 0, none⟩), .int .i64 i] w fun e w' => e = .returned (.tuple #[.int .u32 ((peekL l i).1 : Int), .int .i64 ((peekL l i).2 : Int)]) ∧ Env w0 (As.set k (rowA 100 b d (getL l i) (f + getF l i))) w' ∧ Upd [b, d] w w' :=
  (RGet_calls _ b d l f i w (h.ok k _ hk) hf).mono fun _ _ ⟨he, hr, hu⟩ => ⟨he, h.set h0 k hk hu (by simp [rowA]) hr rfl, hu⟩
theorem E_rflip (c : Int) :
    Calls Tryd.prog 79 #[.pointer (some ⟨b, 0, none⟩), .int .i64 c] w fun e w' => e = .returned (.bool (flipB l c)) ∧ Env w0 (As.set k (rowA 100 b d (flipL l c) f)) w' ∧ Upd [d] w w' :=
  (RFlip_calls _ b d l f c w (h.ok k _ hk)).mono fun _ _ ⟨he, hr, hu⟩ => ⟨he, h.set h0 k hk hu (by simp [rowA]) hr rfl, hu⟩
end
end

theorem E_fnew (w : World) (hT : Tz w) :
    Calls Tryd.prog 42 #[] w fun e w' => e = .returned (.pointer (some ⟨w.heap.size + 2, 0, none⟩)) ∧ Env w [fileA (w.heap.size + 2) (w.heap.size + 1) w.heap.size (List.replicate 31 0) 0 0] w' :=
  (FNew_calls w hT).mono fun _ _ ⟨he, hr, hu, hz⟩ => ⟨he, (Env.none hT).add hu _ hr (by simp [fileA]) (fun x hx => by simp [fileA] at hx; omega)⟩
theorem E_rnew {w0 : World} {As : List Ast} {w : World} (h : Env w0 As w) (n : Int) (N : Nat) (hN : (N : Int) = max 0 (min n 2048)) :
    Calls Tryd.prog 74 #[.int .i64 n] w fun e w' => e = .returned (.pointer (some ⟨w.heap.size + 1, 0, none⟩)) ∧ Env w0 (rowA 100 (w.heap.size + 1) w.heap.size (List.replicate N 0) 0 :: As) w' :=
  (RNew_calls n N w h.tz hN).mono fun _ _ ⟨he, hr, hu⟩ => ⟨he, h.add hu _ hr (by simp [rowA]) (fun x hx => by
    have h1 := hr.blt
    have h2 := hr.dlt
    simp [rowA] at hx; omega)⟩
end Go.Proofs.YtjnjpnnogdldaaaDoor
