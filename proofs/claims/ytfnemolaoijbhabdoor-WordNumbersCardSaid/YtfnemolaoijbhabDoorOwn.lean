/- A row that the call has made: its calls. -/
import Derived.Test.YtfnemolaoijbhabDoorRowC
import Derived.Test.YtfnemolaoijbhabDoorL2a
namespace Go.Proofs.YtfnemolaoijbhabDoor
open Go.RowKit Go.Dio

/-- A row of the call's own; what was there is as it was. -/
structure Own (w0 : World) (b d : Nat) (l : List Nat) (f : Nat) (w : World) : Prop where
  row : RowAt 57 b d l f w
  upd : Upd [] w0 w
  nb : w0.heap.size ≤ b
  nd : w0.heap.size ≤ d

theorem Own.step {w0 : World} {b d : Nat} {l l' : List Nat} {f f' : Nat} {S : List Nat} {w w' : World} (h : Own w0 b d l f w) (r : RowAt 57 b d l' f' w') (u : Upd S w w') (hS : ∀ x ∈ S, x = b ∨ x = d) : Own w0 b d l' f' w' :=
  ⟨r, h.upd.then u (fun x hx hlt => by have := h.nb; have := h.nd; rcases hS x hx with e | e <;> omega), h.nb, h.nd⟩
theorem Own.near {w0 : World} {b d : Nat} {l : List Nat} {f : Nat} {w w' : World} (h : Own w0 b d l f w) (u : Upd [] w w') : Own w0 b d l f w' := h.step (h.row.upd0 u) u (by simp)
theorem Own.inn {w0 : World} {b d : Nat} {l : List Nat} {f : Nat} {w : World} (h : Own w0 b d l f w) : Tz w := h.row.tz

theorem O_new (n : Int) (N : Nat) (w : World) (hT : Tz w) (hN : (N : Int) = max 0 (min n 2048)) :
    Calls Tryd.prog 20 #[.int .i64 n] w fun e w' => e = .returned (.pointer (some ⟨w.heap.size + 1, 0, none⟩)) ∧ Own w (w.heap.size + 1) w.heap.size (List.replicate N 0) 0 w' :=
  (New_calls n N w hT hN).mono fun _ _ ⟨he, hr, hu⟩ => ⟨he, hr, hu, by omega, by omega⟩

section
variable {w0 : World} {b d : Nat} {l : List Nat} {f : Nat} {w : World} (h : Own w0 b d l f w)
include h
theorem O_put (i : Int) (v : Nat) (hv : v < 2 ^ 32) : Calls Tryd.prog 22 #[.pointer (some ⟨b, 0, none⟩), .int .i64 i, .int .u32 (v : Int)] w fun e w' => e = .returned (.bool (inn l i)) ∧ Own w0 b d (putL l i v) f w' :=
  (Put_calls _ b d l f i v w h.row hv).mono fun _ _ ⟨he, hr, hu⟩ => ⟨he, h.step hr hu (by simp)⟩
theorem O_peek (i : Int) : Calls Tryd.prog 24 #[.pointer (some ⟨b, 0, none⟩), .int .i64 i] w fun e w' => e = .returned (.tuple #[.int .u32 ((peekL l i).1 : Int), .int .i64 ((peekL l i).2 : Int)]) ∧ Own w0 b d l f w' :=
  (Peek_calls _ b d l f i w h.row).mono fun _ _ ⟨he, hb⟩ => ⟨he, h.near (Upd.of_below hb)⟩
theorem O_get (i : Int) (hf : f < 9223372036854775806) : Calls Tryd.prog 26 #[.pointer (some ⟨b, 0, none⟩), .int .i64 i] w fun e w' => e = .returned (.tuple #[.int .u32 ((peekL l i).1 : Int), .int .i64 ((peekL l i).2 : Int)]) ∧ Own w0 b d (getL l i) (f + getF l i) w' :=
  (Get_calls _ b d l f i w h.row hf).mono fun _ _ ⟨he, hr, hu⟩ => ⟨he, h.step hr hu (by simp)⟩
theorem O_scrub (i : Int) (hf : f < 9223372036854775806) : Calls Tryd.prog 28 #[.pointer (some ⟨b, 0, none⟩), .int .i64 i] w fun e w' => e = .returned (.int .i64 ((peekL l i).2 : Int)) ∧ Own w0 b d (getL l i) (f + getF l i) w' :=
  (Scrub_calls _ b d l f i w h.row hf).mono fun _ _ ⟨he, hr, hu⟩ => ⟨he, h.step hr hu (by simp)⟩
theorem O_flip (c : Int) : Calls Tryd.prog 29 #[.pointer (some ⟨b, 0, none⟩), .int .i64 c] w fun e w' => e = .returned (.bool (flipB l c)) ∧ Own w0 b d (flipL l c) f w' :=
  (Flip_calls _ b d l f c w h.row).mono fun _ _ ⟨he, hr, hu⟩ => ⟨he, h.step hr hu (by simp)⟩
theorem O_len : Calls Tryd.prog 32 #[.pointer (some ⟨b, 0, none⟩)] w fun e w' => e = .returned (.int .i64 (l.length : Int)) ∧ Own w0 b d l f w' :=
  (Len_calls _ b d l f w h.row).mono fun _ _ ⟨he, hw⟩ => ⟨he, hw ▸ h⟩
theorem O_bits : Calls Tryd.prog 33 #[.pointer (some ⟨b, 0, none⟩)] w fun e w' => e = .returned (.int .i64 ((l.length : Int) * 39)) ∧ Own w0 b d l f w' :=
  (Bits_calls _ b d l f w h.row).mono fun _ _ ⟨he, hw⟩ => ⟨he, hw ▸ h⟩
theorem O_fixes : Calls Tryd.prog 31 #[.pointer (some ⟨b, 0, none⟩)] w fun e w' => e = .returned (.int .i64 (f : Int)) ∧ Own w0 b d l f w' :=
  (Fixes_calls _ b d l f w h.row).mono fun _ _ ⟨he, hw⟩ => ⟨he, hw ▸ h⟩
end
end Go.Proofs.YtfnemolaoijbhabDoor
