/- The document's decoding: its parts. -/
import Derived.Test.YtggjmdgonjhioaaRf5A
import Derived.Test.YtggjmdgonjhioaaDecA
namespace Go.Proofs.Ytggjmdgonjhioaa
open Go.RowKit Go.Dio
set_option linter.unusedSimpArgs false
set_option linter.unusedVariables false

theorem pick_calls (A : Option Addr) (l : List Nat) (L c n : Nat) (z : World) (hL : L = l.length) (hA : NumsAt z .i64 A l) (hn : n < 2 ^ 32) (hl : l.length ≤ 8) :
    Calls Try.prog 55 #[.slice A L c, .int .u32 (n : Int)] z fun e z' => e = .returned (.int .i64 (nth l n : Int)) ∧ z' = z := by
  subst hL
  have p1 : IntKind.i64.wrap (n : Int) = (n : Int) := wrapi64 (by omega) (by omega)
  rcases Nat.lt_or_ge n l.length with h | h
  · obtain ⟨b, o, rfl, hb, hc⟩ := hA (by omega)
    have c1 := hc n h
    have e1 : decide ((n : Int) < (l.length : Int)) = true := decide_eq_true (by omega)
    generalize nth l n = r at c1 ⊢
    generalize l.length = L at *
    clear hc hb
    go_enter Try.func55, Try.ntmps55
    go_wp2_with (fail)
    go_ret
    exact ⟨rfl, rfl⟩
  · have e1 : decide ((n : Int) < (l.length : Int)) = false := decide_eq_false (by omega)
    rw [show nth l n = 0 by simp [nth, h]]
    generalize l.length = L at *
    clear hA
    go_enter Try.func55, Try.ntmps55
    go_wp2_with (fail)
    go_ret
    exact ⟨rfl, rfl⟩

theorem arith_calls (f7 f3 : Nat) (h3 : f3 < 8) (h7 : f7 < 128) (z : World) :
    Calls Try.prog 60 #[.int .u32 (f7 : Int), .int .u32 (f3 : Int)] z fun e z' => e = .returned (.int .i64 (opR f7 f3 : Int)) ∧ Upd [] z z' := by
  by_cases h0 : f7 = 0
  · subst h0
    go_enter Try.func60, Try.ntmps60
    go_wp2_with (fail)
    refine (pick_calls _ [28, 30, 31, 32, 33, 34, 36, 37] _ _ f3 _ rfl (numsAt_new _ .i64 [28, 30, 31, 32, 33, 34, 36, 37] 3) (by omega) (by decide)).mono ?_
    rintro e z1 ⟨rfl, rfl⟩
    go_wp2_with (fail)
    go_ret
    exact ⟨rfl, (Upd.refl _ _).alloc _⟩
  by_cases h1 : f7 = 1
  · subst h1
    go_enter Try.func60, Try.ntmps60
    go_wp2_with (fail)
    refine (pick_calls _ [38, 39, 40, 41, 42, 43, 44, 45] _ _ f3 _ rfl (numsAt_new _ .i64 [38, 39, 40, 41, 42, 43, 44, 45] 3) (by omega) (by decide)).mono ?_
    rintro e z1 ⟨rfl, rfl⟩
    go_wp2_with (fail)
    go_ret
    exact ⟨rfl, (Upd.refl _ _).alloc _⟩
  have d0 : ((f7 : Int) == 0) = false := (cast_ne_b h0).1
  have d1 : ((f7 : Int) == 1) = false := (cast_ne_b h1).1
  by_cases h2 : f7 = 32
  · subst h2
    have e : opR 32 f3 = nth [29, 0, 0, 0, 0, 35, 0, 0] f3 := by
      rcases (by omega : f3 = 0 ∨ f3 = 1 ∨ f3 = 2 ∨ f3 = 3 ∨ f3 = 4 ∨ f3 = 5 ∨ f3 = 6 ∨ f3 = 7) with rfl | rfl | rfl | rfl | rfl | rfl | rfl | rfl <;> rfl
    rw [e]
    go_enter Try.func60, Try.ntmps60
    go_wp2_with (fail)
    refine (pick_calls _ [29, 0, 0, 0, 0, 35, 0, 0] _ _ f3 _ rfl (numsAt_new _ .i64 [29, 0, 0, 0, 0, 35, 0, 0] 3) (by omega) (by decide)).mono ?_
    rintro e z1 ⟨rfl, rfl⟩
    go_wp2_with (fail)
    go_ret
    exact ⟨rfl, (Upd.refl _ _).alloc _⟩
  · have d2 : ((f7 : Int) == 32) = false := (cast_ne_b h2).1
    rw [opR, if_neg h0, if_neg h1, if_neg (by simp [h2]), if_neg (by simp [h2])]
    clear h0 h1 h2
    go_enter Try.func60, Try.ntmps60
    go_wp2_with (fail)
    go_ret
    exact ⟨rfl, Upd.refl _ _⟩

def immO (f3 f7 : Nat) : Nat := if f3 ≠ 1 ∧ f3 ≠ 5 then nth [19, 25, 20, 21, 22, 26, 23, 24] f3 else if f7 = 32 ∧ f3 = 5 then 27 else if f7 ≠ 0 then 0 else nth [19, 25, 20, 21, 22, 26, 23, 24] f3
def immV (w f3 f7 : Nat) : Int := if f3 ≠ 1 ∧ f3 ≠ 5 then immI w else if f7 = 32 ∧ f3 = 5 then ((fb w 20 5 : Nat) : Int) else if f7 ≠ 0 then 0 else ((fb w 20 5 : Nat) : Int)
theorem rimm_calls (w f3 : Nat) (hw : w < 2 ^ 32) (h3 : f3 < 8) (z : World) :
    Calls Try.prog 59 #[.int .u32 (w : Int), .int .u32 (f3 : Int)] z fun e z' => e = .returned (.tuple #[.int .i64 (immO f3 (fb w 25 7) : Int), .int .i32 (immV w f3 (fb w 25 7))]) ∧ Upd [] z z' := by
  have B7 := Lib.hid (fun z => rBits_calls w 25 7 z hw (by decide) (by decide) (by decide))
  have B5 := Lib.hid (fun z => rBits_calls w 20 5 z hw (by decide) (by decide) (by decide))
  have h5 := fb_lt w 20 5
  have p5 : IntKind.i32.wrap (fb w 20 5 : Int) = (fb w 20 5 : Int) := by rw [IntKind.wrap_i32]; omega
  by_cases hf : f3 ≠ 1 ∧ f3 ≠ 5
  · have e1 : (((nth [19, 25, 20, 21, 22, 26, 23, 24] f3 : Nat) : Int) != 25) = true := by
      rcases (by omega : f3 = 0 ∨ f3 = 2 ∨ f3 = 3 ∨ f3 = 4 ∨ f3 = 6 ∨ f3 = 7) with rfl | rfl | rfl | rfl | rfl | rfl <;> rfl
    have e2 : (((nth [19, 25, 20, 21, 22, 26, 23, 24] f3 : Nat) : Int) != 26) = true := by
      rcases (by omega : f3 = 0 ∨ f3 = 2 ∨ f3 = 3 ∨ f3 = 4 ∨ f3 = 6 ∨ f3 = 7) with rfl | rfl | rfl | rfl | rfl | rfl <;> rfl
    rw [show immO f3 (fb w 25 7) = nth [19, 25, 20, 21, 22, 26, 23, 24] f3 from if_pos hf, show immV w f3 (fb w 25 7) = immI w from if_pos hf]
    clear hf h5 p5
    go_enter Try.func59, Try.ntmps59
    go_wp2_with (fail)
    refine (pick_calls _ [19, 25, 20, 21, 22, 26, 23, 24] _ _ f3 _ rfl (numsAt_new _ .i64 [19, 25, 20, 21, 22, 26, 23, 24] 3) (by omega) (by decide)).mono ?_
    rintro e z1 ⟨rfl, rfl⟩
    go_wp2_with (fail)
    refine (rImmI_calls w _ hw).mono ?_
    rintro e z1 ⟨rfl, rfl⟩
    go_wp2_with (fail)
    go_ret2
    exact ⟨rfl, (Upd.refl _ _).alloc _⟩
  · generalize fb w 25 7 = f7 at *
    have hff : f3 = 1 ∨ f3 = 5 := by omega
    clear hf
    by_cases h0 : f7 = 0
    · subst h0
      rcases hff with rfl | rfl
      · skip
        rw [show immO 1 0 = 25 by rfl, show immV w 1 0 = ((fb w 20 5 : Nat) : Int) by rfl]
        go_enter Try.func59, Try.ntmps59
        go_wp2_with (fail)
        refine (pick_calls _ [19, 25, 20, 21, 22, 26, 23, 24] _ _ 1 _ rfl (numsAt_new _ .i64 [19, 25, 20, 21, 22, 26, 23, 24] 3) (by omega) (by decide)).mono ?_
        rintro e z1 ⟨rfl, rfl⟩
        go_wp2_with (fail)
        refine (B7.out _).mono ?_
        rintro e z1 ⟨rfl, rfl⟩
        go_wp2_with (fail)
        refine (B5.out _).mono ?_
        rintro e z1 ⟨rfl, rfl⟩
        go_wp2_with (fail)
        go_ret2
        exact ⟨rfl, (Upd.refl _ _).alloc _⟩
      · skip
        rw [show immO 5 0 = 26 by rfl, show immV w 5 0 = ((fb w 20 5 : Nat) : Int) by rfl]
        go_enter Try.func59, Try.ntmps59
        go_wp2_with (fail)
        refine (pick_calls _ [19, 25, 20, 21, 22, 26, 23, 24] _ _ 5 _ rfl (numsAt_new _ .i64 [19, 25, 20, 21, 22, 26, 23, 24] 3) (by omega) (by decide)).mono ?_
        rintro e z1 ⟨rfl, rfl⟩
        go_wp2_with (fail)
        refine (B7.out _).mono ?_
        rintro e z1 ⟨rfl, rfl⟩
        go_wp2_with (fail)
        refine (B5.out _).mono ?_
        rintro e z1 ⟨rfl, rfl⟩
        go_wp2_with (fail)
        go_ret2
        exact ⟨rfl, (Upd.refl _ _).alloc _⟩
    have d0 : ((f7 : Int) != 0) = true := (cast_ne_b h0).2
    by_cases h2 : f7 = 32
    · subst h2
      rcases hff with rfl | rfl
      · skip
        rw [show immO 1 32 = 0 by rfl, show immV w 1 32 = 0 by rfl]
        go_enter Try.func59, Try.ntmps59
        go_wp2_with (fail)
        refine (pick_calls _ [19, 25, 20, 21, 22, 26, 23, 24] _ _ 1 _ rfl (numsAt_new _ .i64 [19, 25, 20, 21, 22, 26, 23, 24] 3) (by omega) (by decide)).mono ?_
        rintro e z1 ⟨rfl, rfl⟩
        go_wp2_with (fail)
        refine (B7.out _).mono ?_
        rintro e z1 ⟨rfl, rfl⟩
        go_wp2_with (fail)
        go_ret2
        exact ⟨rfl, (Upd.refl _ _).alloc _⟩
      · skip
        rw [show immO 5 32 = 27 by rfl, show immV w 5 32 = ((fb w 20 5 : Nat) : Int) by rfl]
        go_enter Try.func59, Try.ntmps59
        go_wp2_with (fail)
        refine (pick_calls _ [19, 25, 20, 21, 22, 26, 23, 24] _ _ 5 _ rfl (numsAt_new _ .i64 [19, 25, 20, 21, 22, 26, 23, 24] 3) (by omega) (by decide)).mono ?_
        rintro e z1 ⟨rfl, rfl⟩
        go_wp2_with (fail)
        refine (B7.out _).mono ?_
        rintro e z1 ⟨rfl, rfl⟩
        go_wp2_with (fail)
        refine (B5.out _).mono ?_
        rintro e z1 ⟨rfl, rfl⟩
        go_wp2_with (fail)
        go_ret2
        exact ⟨rfl, (Upd.refl _ _).alloc _⟩
    have d2 : ((f7 : Int) == 32) = false := (cast_ne_b h2).1
    rcases hff with rfl | rfl
    · skip
      rw [show immO 1 f7 = 0 by simp [immO, h0, h2], show immV w 1 f7 = 0 by simp [immV, h0, h2]]
      clear h0 h2
      go_enter Try.func59, Try.ntmps59
      go_wp2_with (fail)
      refine (pick_calls _ [19, 25, 20, 21, 22, 26, 23, 24] _ _ 1 _ rfl (numsAt_new _ .i64 [19, 25, 20, 21, 22, 26, 23, 24] 3) (by omega) (by decide)).mono ?_
      rintro e z1 ⟨rfl, rfl⟩
      go_wp2_with (fail)
      refine (B7.out _).mono ?_
      rintro e z1 ⟨rfl, rfl⟩
      go_wp2_with (fail)
      go_ret2
      exact ⟨rfl, (Upd.refl _ _).alloc _⟩
    · skip
      rw [show immO 5 f7 = 0 by simp [immO, h0, h2], show immV w 5 f7 = 0 by simp [immV, h0, h2]]
      clear h0 h2
      go_enter Try.func59, Try.ntmps59
      go_wp2_with (fail)
      refine (pick_calls _ [19, 25, 20, 21, 22, 26, 23, 24] _ _ 5 _ rfl (numsAt_new _ .i64 [19, 25, 20, 21, 22, 26, 23, 24] 3) (by omega) (by decide)).mono ?_
      rintro e z1 ⟨rfl, rfl⟩
      go_wp2_with (fail)
      refine (B7.out _).mono ?_
      rintro e z1 ⟨rfl, rfl⟩
      go_wp2_with (fail)
      go_ret2
      exact ⟨rfl, (Upd.refl _ _).alloc _⟩
end Go.Proofs.Ytggjmdgonjhioaa
