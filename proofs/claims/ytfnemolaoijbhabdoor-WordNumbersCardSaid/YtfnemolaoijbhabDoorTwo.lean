/- A row and the document's own, both of the call's making. -/
import Derived.Test.YtfnemolaoijbhabDoorRowE
import Derived.Test.YtfnemolaoijbhabDoorL3a
namespace Go.Proofs.YtfnemolaoijbhabDoor
open Go.RowKit Go.Dio

structure Two (w0 : World) (b d b' d' : Nat) (l : List Nat) (f : Nat) (l' : List Nat) (f' : Nat) (w : World) : Prop where
  row : RowAt 57 b d l f w
  ref : RowAt 53 b' d' l' f' w
  upd : Upd [] w0 w
  nb : w0.heap.size ≤ b
  nd : w0.heap.size ≤ d
  nb' : w0.heap.size ≤ b'
  nd' : w0.heap.size ≤ d'
  a1 : b ≠ b'
  a2 : b ≠ d'
  a3 : d ≠ b'
  a4 : d ≠ d'

theorem Two.near {w0 : World} {b d b' d' : Nat} {l l' : List Nat} {f f' : Nat} {w w' : World} (h : Two w0 b d b' d' l f l' f' w) (u : Upd [] w w') : Two w0 b d b' d' l f l' f' w' :=
  ⟨h.row.upd0 u, h.ref.upd0 u, h.upd.trans u, h.nb, h.nd, h.nb', h.nd', h.a1, h.a2, h.a3, h.a4⟩
theorem Two.left {w0 : World} {b d b' d' : Nat} {l l' m : List Nat} {f f' g : Nat} {S : List Nat} {w w' : World} (h : Two w0 b d b' d' l f l' f' w) (r : RowAt 57 b d m g w') (u : Upd S w w') (hS : ∀ x ∈ S, x = b ∨ x = d) : Two w0 b d b' d' m g l' f' w' :=
  ⟨r, h.ref.upd u (fun hx => by have := h.a1; have := h.a3; rcases hS _ hx with e | e <;> omega) (fun hx => by have := h.a2; have := h.a4; rcases hS _ hx with e | e <;> omega)
    (fun hx => by have := h.row.b0; have := h.row.d0; rcases hS _ hx with e | e <;> omega),
   h.upd.then u (fun x hx hlt => by have := h.nb; have := h.nd; rcases hS x hx with e | e <;> omega), h.nb, h.nd, h.nb', h.nd', h.a1, h.a2, h.a3, h.a4⟩
theorem Two.right {w0 : World} {b d b' d' : Nat} {l l' m : List Nat} {f f' g : Nat} {S : List Nat} {w w' : World} (h : Two w0 b d b' d' l f l' f' w) (r : RowAt 53 b' d' m g w') (u : Upd S w w') (hS : ∀ x ∈ S, x = b' ∨ x = d') : Two w0 b d b' d' l f m g w' :=
  ⟨h.row.upd u (fun hx => by have := h.a1; have := h.a2; rcases hS _ hx with e | e <;> omega) (fun hx => by have := h.a3; have := h.a4; rcases hS _ hx with e | e <;> omega)
    (fun hx => by have := h.ref.b0; have := h.ref.d0; rcases hS _ hx with e | e <;> omega), r,
   h.upd.then u (fun x hx hlt => by have := h.nb'; have := h.nd'; rcases hS x hx with e | e <;> omega), h.nb, h.nd, h.nb', h.nd', h.a1, h.a2, h.a3, h.a4⟩

theorem T_new (n : Int) (N : Nat) (w0 w : World) (b d : Nat) (l : List Nat) (f : Nat) (h : Own w0 b d l f w) (hN : (N : Int) = max 0 (min n 2048)) :
    Calls Tryd.prog 21 #[.int .i64 n] w fun e w' => e = .returned (.pointer (some ⟨w.heap.size + 1, 0, none⟩)) ∧ Two w0 b d (w.heap.size + 1) w.heap.size l f (List.replicate N 0) 0 w' :=
  (RNew_calls n N w h.row.tz hN).mono fun _ _ ⟨he, hr, hu⟩ => by
    have h1 := h.row.blt
    have h2 := h.row.dlt
    have h3 := h.upd.size
    exact ⟨he, h.row.upd0 hu, hr, h.upd.trans hu, h.nb, h.nd, by omega, by omega, by omega, by omega, by omega, by omega⟩

section
variable {w0 : World} {b d b' d' : Nat} {l l' : List Nat} {f f' : Nat} {w : World} (h : Two w0 b d b' d' l f l' f' w)
include h
theorem T_put (i : Int) (v : Nat) (hv : v < 2 ^ 32) : Calls Tryd.prog 22 #[.pointer (some ⟨b, 0, none⟩), .int .i64 i, .int .u32 (v : Int)] w fun e w' => e = .returned (.bool (inn l i)) ∧ Two w0 b d b' d' (putL l i v) f l' f' w' ∧ Upd [d] w w' :=
  (Put_calls _ b d l f i v w h.row hv).mono fun _ _ ⟨he, hr, hu⟩ => ⟨he, h.left hr hu (by simp), hu⟩
theorem T_rput (i : Int) (v : Nat) (hv : v < 2 ^ 32) : Calls Tryd.prog 23 #[.pointer (some ⟨b', 0, none⟩), .int .i64 i, .int .u32 (v : Int)] w fun e w' => e = .returned (.bool (inn l' i)) ∧ Two w0 b d b' d' l f (putL l' i v) f' w' ∧ Upd [d'] w w' :=
  (RPut_calls _ b' d' l' f' i v w h.ref hv).mono fun _ _ ⟨he, hr, hu⟩ => ⟨he, h.right hr hu (by simp), hu⟩
theorem T_peek (i : Int) : Calls Tryd.prog 24 #[.pointer (some ⟨b, 0, none⟩), .int .i64 i] w fun e w' => e = .returned (.tuple #[.int .u32 ((peekL l i).1 : Int), .int .i64 ((peekL l i).2 : Int)]) ∧ Two w0 b d b' d' l f l' f' w' ∧ Upd [] w w' :=
  (Peek_calls _ b d l f i w h.row).mono fun _ _ ⟨he, hb⟩ => ⟨he, h.near (Upd.of_below hb), Upd.of_below hb⟩
theorem T_rpeek (i : Int) : Calls Tryd.prog 25 #[.pointer (some ⟨b', 0, none⟩), .int .i64 i] w fun e w' => e = .returned (.tuple #[.int .u32 ((peekL l' i).1 : Int), .int .i64 ((peekL l' i).2 : Int)]) ∧ Two w0 b d b' d' l f l' f' w' ∧ Upd [] w w' :=
  (RPeek_calls _ b' d' l' f' i w h.ref).mono fun _ _ ⟨he, hb⟩ => ⟨he, hb ▸ h, hb ▸ Upd.refl _ _⟩
theorem T_get (i : Int) (hf : f < 9223372036854775806) : Calls Tryd.prog 26 #[.pointer (some ⟨b, 0, none⟩), .int .i64 i] w fun e w' => e = .returned (.tuple #[.int .u32 ((peekL l i).1 : Int), .int .i64 ((peekL l i).2 : Int)]) ∧ Two w0 b d b' d' (getL l i) (f + getF l i) l' f' w' ∧ Upd [b, d] w w' :=
  (Get_calls _ b d l f i w h.row hf).mono fun _ _ ⟨he, hr, hu⟩ => ⟨he, h.left hr hu (by simp), hu⟩
theorem T_rget (i : Int) (hf : f' < 9223372036854775806) : Calls Tryd.prog 27 #[.pointer (some ⟨b', 0, none⟩), .int .i64 i] w fun e w' => e = .returned (.tuple #[.int .u32 ((peekL l' i).1 : Int), .int .i64 ((peekL l' i).2 : Int)]) ∧ Two w0 b d b' d' l f (getL l' i) (f' + getF l' i) w' ∧ Upd [b', d'] w w' :=
  (RGet_calls _ b' d' l' f' i w h.ref hf).mono fun _ _ ⟨he, hr, hu⟩ => ⟨he, h.right hr hu (by simp), hu⟩
theorem T_scrub (i : Int) (hf : f < 9223372036854775806) : Calls Tryd.prog 28 #[.pointer (some ⟨b, 0, none⟩), .int .i64 i] w fun e w' => e = .returned (.int .i64 ((peekL l i).2 : Int)) ∧ Two w0 b d b' d' (getL l i) (f + getF l i) l' f' w' ∧ Upd [b, d] w w' :=
  (Scrub_calls _ b d l f i w h.row hf).mono fun _ _ ⟨he, hr, hu⟩ => ⟨he, h.left hr hu (by simp), hu⟩
theorem T_flip (c : Int) : Calls Tryd.prog 29 #[.pointer (some ⟨b, 0, none⟩), .int .i64 c] w fun e w' => e = .returned (.bool (flipB l c)) ∧ Two w0 b d b' d' (flipL l c) f l' f' w' ∧ Upd [d] w w' :=
  (Flip_calls _ b d l f c w h.row).mono fun _ _ ⟨he, hr, hu⟩ => ⟨he, h.left hr hu (by simp), hu⟩
theorem T_rflip (c : Int) : Calls Tryd.prog 30 #[.pointer (some ⟨b', 0, none⟩), .int .i64 c] w fun e w' => e = .returned (.bool (flipB l' c)) ∧ Two w0 b d b' d' l f (flipL l' c) f' w' ∧ Upd [d'] w w' :=
  (RFlip_calls _ b' d' l' f' c w h.ref).mono fun _ _ ⟨he, hr, hu⟩ => ⟨he, h.right hr hu (by simp), hu⟩
end
end Go.Proofs.YtfnemolaoijbhabDoor
