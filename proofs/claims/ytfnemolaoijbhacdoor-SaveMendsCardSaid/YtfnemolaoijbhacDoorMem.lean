/- Memory that mends itself, in memory: New, Load, Flip, Bits, Fixes. -/
import Derived.Test.YtfnemolaoijbhacDoorSep
import Derived.Test.YtfnemolaoijbhacDoorSeg
import Derived.Test.YtfnemolaoijbhacDoorCel
import Derived.Test.YtfnemolaoijbhacDoorWd
import Derived.Deep.LoopGhost
namespace Go.Proofs.YtfnemolaoijbhacDoor
open Go.RowKit Go.Dio
set_option linter.unusedSimpArgs false
set_option linter.unusedVariables false

/-- Memory at block mb, its row at b, d. -/
structure MemAt (mb b d : Nat) (l : List Nat) (f at' : Nat) (w : World) : Prop where
  cell : w.heap[mb]? = some (.cells #[.pointer (some ⟨b, 0, none⟩), .int .i64 (at' : Int)] 77 (0, 0))
  row : RowAt 94 b d l f w
  nb : mb ≠ b
  nd : mb ≠ d
  f0 : mb ≠ 0
theorem MemAt.upd {mb b d : Nat} {l : List Nat} {f at' : Nat} {S : List Nat} {w w' : World} (h : MemAt mb b d l f at' w) (u : Upd S w w') (h1 : mb ∉ S) (h2 : b ∉ S) (h3 : d ∉ S) (hg : 0 ∉ S) : MemAt mb b d l f at' w' :=
  ⟨u.keep h.cell h1, h.row.upd u h2 h3 hg, h.nb, h.nd, h.f0⟩
theorem MemAt.upd0 {mb b d : Nat} {l : List Nat} {f at' : Nat} {w w' : World} (h : MemAt mb b d l f at' w) (u : Upd [] w w') : MemAt mb b d l f at' w' := h.upd u (by simp) (by simp) (by simp) (by simp)
theorem MemAt.step {mb b d : Nat} {l l' : List Nat} {f f' at' : Nat} {S : List Nat} {w w' : World} (h : MemAt mb b d l f at' w) (r : RowAt 94 b d l' f' w') (u : Upd S w w') (hS : ∀ x ∈ S, x = b ∨ x = d) : MemAt mb b d l' f' at' w' :=
  ⟨u.keep h.cell (fun hx => by have := h.nb; have := h.nd; rcases hS _ hx with e | e <;> omega), r, h.nb, h.nd, h.f0⟩
theorem MemAt.next {mb b d : Nat} {l : List Nat} {f a : Nat} {w : World} (h : MemAt mb b d l f a w) (n : Nat) : MemAt mb b d l f n (w.setCell ⟨mb, 1, none⟩ (.int .i64 (n : Int))) := by
  refine ⟨?_, ?_, h.nb, h.nd, h.f0⟩
  · rw [heap_setCell_eq h.cell]; simp
  · exact h.row.upd ((Upd.refl [mb] w).setCell (p := ⟨mb, 1, none⟩) (by simp) _) (by have := h.nb; simp; omega) (by have := h.nd; simp; omega) (by have := h.f0; simp; omega)
def memA (mb b d : Nat) (l : List Nat) (f at' : Nat) : Ast :=
  ⟨[mb, b, d], MemAt mb b d l f at', fun _ _ _ h u hb hg => h.upd u (hb mb (by simp)) (hb b (by simp)) (hb d (by simp)) hg⟩

/-- Why an address may not be (0: it may). -/
def mayE (v : Nat) : Nat := if v % 4 ≠ 0 then 13 else if 4096 ≤ v then 14 else 0
theorem mayE_ok {v : Nat} (h : mayE v = 0) : v % 4 = 0 ∧ v < 4096 := by
  unfold mayE at h
  split at h
  · omega
  · split at h <;> omega
theorem may_calls (v : Nat) (w : World) (hv : v < 2 ^ 32) : Calls Tryd.prog 38 #[.int .u32 (v : Int)] w fun e w' => e = .returned (.int .i64 (mayE v : Int)) ∧ w' = w := by
  unfold mayE
  rcases (by omega : v % 4 ≠ 0 ∨ (v % 4 = 0 ∧ 4096 ≤ v) ∨ (v % 4 = 0 ∧ v < 4096)) with h | ⟨h, g⟩ | ⟨h, g⟩
  · rw [if_pos h]
    have h4 : ((v : Int) % 4 == 0) = false := by rw [beq_eq_false_iff_ne]; omega
    have h4' : ((v : Int) % 4 != 0) = true := by rw [bne_iff_ne]; omega
    go_enter Tryd.func38, Tryd.ntmps38
    go_wp2_with (fail)
    go_ret
    exact ⟨rfl, rfl⟩
  · rw [if_neg (by omega), if_pos g]
    have h4 : (v : Int) % 4 = 0 := by omega
    go_enter Tryd.func38, Tryd.ntmps38
    go_wp2_with (fail)
    have hd : decide ((v : Int) < 4096) = false := by rw [decide_eq_false_iff_not]; omega
    go_wp2
    go_ret
    exact ⟨rfl, rfl⟩
  · rw [if_neg (by omega), if_neg (by omega)]
    have h4 : (v : Int) % 4 = 0 := by omega
    go_enter Tryd.func38, Tryd.ntmps38
    go_wp2_with (fail)
    have hd : decide ((v : Int) < 4096) = true := by rw [decide_eq_true_iff]; omega
    go_wp2
    go_ret
    exact ⟨rfl, rfl⟩

theorem MBits_calls (mb b d : Nat) (l : List Nat) (f at' : Nat) (w : World) (h : MemAt mb b d l f at' w) :
    Calls Tryd.prog 41 #[.pointer (some ⟨mb, 0, none⟩)] w fun e w' => e = .returned (.int .i64 ((l.length : Int) * 39)) ∧ w' = w := by
  have cb := cells_of h.cell
  have c0 : w.cell? ⟨mb, 0, none⟩ = some (.pointer (some ⟨b, 0, none⟩)) := by rw [cb]; rfl
  clear cb
  have H := Lib.hid h
  have B := Lib.hid (Bits_calls _ b d l f w h.row)
  clear h
  go_enter Tryd.func41, Tryd.ntmps41
  go_wp2_with (fail)
  refine (B.out).mono ?_
  rintro e w' ⟨rfl, rfl⟩
  go_wp2_with (fail)
  go_ret
  exact ⟨rfl, rfl⟩
theorem MFixes_calls (mb b d : Nat) (l : List Nat) (f at' : Nat) (w : World) (h : MemAt mb b d l f at' w) :
    Calls Tryd.prog 40 #[.pointer (some ⟨mb, 0, none⟩)] w fun e w' => e = .returned (.int .i64 (f : Int)) ∧ w' = w := by
  have cb := cells_of h.cell
  have c0 : w.cell? ⟨mb, 0, none⟩ = some (.pointer (some ⟨b, 0, none⟩)) := by rw [cb]; rfl
  clear cb
  have H := Lib.hid h
  have B := Lib.hid (Fixes_calls _ b d l f w h.row)
  clear h
  go_enter Tryd.func40, Tryd.ntmps40
  go_wp2_with (fail)
  refine (B.out).mono ?_
  rintro e w' ⟨rfl, rfl⟩
  go_wp2_with (fail)
  go_ret
  exact ⟨rfl, rfl⟩
theorem MFlip_calls (mb b d : Nat) (l : List Nat) (f at' : Nat) (c : Int) (w : World) (h : MemAt mb b d l f at' w) :
    Calls Tryd.prog 20 #[.pointer (some ⟨mb, 0, none⟩), .int .i64 c] w fun e w' => e = .returned (.bool (flipB l c)) ∧ MemAt mb b d (flipL l c) f at' w' ∧ Upd [d] w w' := by
  have cb := cells_of h.cell
  have c0 : w.cell? ⟨mb, 0, none⟩ = some (.pointer (some ⟨b, 0, none⟩)) := by rw [cb]; rfl
  clear cb
  have H := Lib.hid h
  have B := Lib.hid (Flip_calls _ b d l f c w h.row)
  clear h
  go_enter Tryd.func20, Tryd.ntmps20
  go_wp2_with (fail)
  refine B.out.mono ?_
  rintro e w' ⟨rfl, r, u⟩
  go_wp2_with (fail)
  go_ret
  exact ⟨rfl, H.out.step r u (by simp), u⟩

def mloadV (l : List Nat) (v : Nat) : Nat × Nat := if mayE v ≠ 0 then (0, mayE v) else if (peekL l ((v / 4 : Nat) : Int)).2 = 2 then (0, 25) else ((peekL l ((v / 4 : Nat) : Int)).1, 0)
def mloadL (l : List Nat) (v : Nat) : List Nat := if mayE v ≠ 0 then l else getL l ((v / 4 : Nat) : Int)
def mloadF (l : List Nat) (v : Nat) : Nat := if mayE v ≠ 0 then 0 else getF l ((v / 4 : Nat) : Int)
set_option maxHeartbeats 1000000 in
theorem MLoad_calls (mb b d : Nat) (l : List Nat) (f at' : Nat) (v : Nat) (w : World) (h : MemAt mb b d l f at' w) (hv : v < 2 ^ 32) (hf : f < 9223372036854775806) :
    Calls Tryd.prog 22 #[.pointer (some ⟨mb, 0, none⟩), .int .u32 (v : Int)] w fun e w' => e = .returned (.tuple #[.int .u32 ((mloadV l v).1 : Int), .int .i64 ((mloadV l v).2 : Int)]) ∧ MemAt mb b d (mloadL l v) (f + mloadF l v) at' w' ∧ Upd [b, d] w w' := by
  have cb := cells_of h.cell
  have c0 : w.cell? ⟨mb, 0, none⟩ = some (.pointer (some ⟨b, 0, none⟩)) := by rw [cb]; rfl
  clear cb
  have H := Lib.hid h
  have M := Lib.hid (may_calls v w hv)
  by_cases hm : mayE v = 0
  · rw [hm] at M
    have G := Lib.hid (Get_calls _ b d l f ((v / 4 : Nat) : Int) w h.row hf)
    have e2 : mloadL l v = getL l ((v / 4 : Nat) : Int) := by rw [mloadL, if_neg (by omega)]
    have e3 : mloadF l v = getF l ((v / 4 : Nat) : Int) := by rw [mloadF, if_neg (by omega)]
    have e1 : mloadV l v = if (peekL l ((v / 4 : Nat) : Int)).2 = 2 then (0, 25) else ((peekL l ((v / 4 : Nat) : Int)).1, 0) := by rw [mloadV, if_neg (by omega)]
    rw [e1, e2, e3]
    clear e1 e2 e3
    have hq : (v : Int) / 4 = ((v / 4 : Nat) : Int) := by omega
    have hql : v / 4 < 2 ^ 32 := by omega
    generalize v / 4 = q at G hq hql ⊢
    obtain ⟨y, z, hyz⟩ : ∃ y z, peekL l (q : Int) = (y, z) := ⟨_, _, rfl⟩
    rw [hyz] at G ⊢
    simp only
    clear h hm hyz
    by_cases hz : z = 2
    · subst hz
      go_enter Tryd.func22, Tryd.ntmps22
      go_wp2_with (fail)
      refine M.out.mono ?_
      rintro e w' ⟨rfl, rfl⟩
      go_wp2_with (fail)
      refine G.out.mono ?_
      rintro e w1 ⟨rfl, r, u⟩
      go_wp2_with (fail)
      go_ret2
      exact ⟨rfl, H.out.step r u (by simp), u⟩
    · rw [if_neg hz]
      have dz : ((z : Int) == 2) = false := by rw [beq_eq_false_iff_ne]; omega
      go_enter Tryd.func22, Tryd.ntmps22
      go_wp2_with (fail)
      refine M.out.mono ?_
      rintro e w' ⟨rfl, rfl⟩
      go_wp2_with (fail)
      refine G.out.mono ?_
      rintro e w1 ⟨rfl, r, u⟩
      go_wp2_with (fail)
      go_ret2
      exact ⟨rfl, H.out.step r u (by simp), u⟩
  · have e1 : mloadV l v = (0, mayE v) := by rw [mloadV, if_pos hm]
    have e2 : mloadL l v = l := by rw [mloadL, if_pos hm]
    have e3 : mloadF l v = 0 := by rw [mloadF, if_pos hm]
    rw [e1, e2, e3]
    generalize mayE v = e at M hm ⊢
    have d0 : ((e : Int) != 0) = true := by rw [bne_iff_ne]; omega
    clear h e1 e2 e3 c0
    go_enter Tryd.func22, Tryd.ntmps22
    go_wp2_with (fail)
    refine M.out.mono ?_
    rintro e w' ⟨rfl, rfl⟩
    go_wp2_with (fail)
    go_ret2
    exact ⟨rfl, H.out, Upd.refl _ _⟩
end Go.Proofs.YtfnemolaoijbhacDoor
