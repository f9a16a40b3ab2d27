/- Tapes: words, single instructions. -/
import Derived.Test.YtggjmdgonjhioaaKeeA
namespace Go.Proofs.Ytggjmdgonjhioaa
open Go.RowKit Go.Dio
set_option linter.unusedSimpArgs false
set_option linter.unusedVariables false

theorem nthB {l : List Nat} {B : Nat} (h : ∀ x ∈ l, x < B) (hB : 0 < B) (k : Nat) : nth l k < B := by
  by_cases hk : k < l.length
  · rw [nth_eq l k hk]; exact h _ (List.getElem_mem hk)
  · rw [show nth l k = 0 by simp [nth, show l.length ≤ k by omega]]; exact hB
set_option maxHeartbeats 2000000 in
theorem Word_calls (tb : Nat) (A : Option Addr) (L : List Int) (c at' : Nat) (w : World) (T : TapeAt tb A L c at' w) :
    Calls Try.prog 25 #[.pointer (some ⟨tb, 0, none⟩)] w fun e w' => ∃ (n a2 : Nat), n < 2 ^ 32 ∧ e = .returned (.int .u32 (n : Int)) ∧ TapeAt tb A L c a2 w' ∧ Upd [tb] w w' := by
  go_enter Try.func25, Try.ntmps25
  go_wp2_with (fail)
  refine (Next_calls _ _ _ _ _ 5 _ T (by decide) (by decide)).mono ?_
  rintro e w1 ⟨r1, a1, hr1, rfl, T1, U1⟩
  have X1 := Lib.hid T1
  have V1 := Lib.hid U1
  clear T1 U1
  by_cases h0 : r1 = 0
  · subst h0
    go_wp2_with (fail)
    refine (Next_calls _ _ _ _ _ 1073741824 _ X1.out (by decide) (by decide)).mono ?_
    rintro e w2 ⟨r2, a2, hr2, rfl, T2, U2⟩
    have p1 : IntKind.u32.wrap (r2 : Int) = (r2 : Int) := wrap32 (by omega) (by omega)
    have p2 : IntKind.u32.wrap ((r2 : Int) * 4) = ((r2 * 4 : Nat) : Int) := ev_shl r2 4 (by omega)
    have X2 := Lib.hid T2
    have V2 := Lib.hid (V1.out.trans U2)
    clear T2 U2
    go_wp2_with (fail)
    refine (Next_calls _ _ _ _ _ 4 _ X2.out (by decide) (by decide)).mono ?_
    rintro e w3 ⟨r3, a3, hr3, rfl, T3, U3⟩
    have p3 : IntKind.u32.wrap (r3 : Int) = (r3 : Int) := wrap32 (by omega) (by omega)
    have p4 : bits .or .u32 ((r2 : Int) * 4) (r3 : Int) = ((r2 * 4 ||| r3 : Nat) : Int) := by have := or32 (r2 * 4) r3 (by omega) (by omega); push_cast at this; exact this
    have h4 := or_lt (r2 * 4) r3 (by omega) (by omega)
    generalize r2 * 4 ||| r3 = n at p4 h4
    clear p2
    go_wp2_with (fail)
    go_ret
    exact ⟨n, a3, h4, rfl, T3, V2.out.trans U3⟩
  have d0 : ((r1 : Int) == 0) = false := (cast_ne_b h0).1
  by_cases h1 : r1 = 1
  · subst h1
    go_wp2_with (fail)
    have K := Lib.hid (hl1 w1 (.cells (nums .u32 [0, 1, 4294967295, 2147483648, 2147483647, 2147483649, 255, 65536]) 31))
    have X2 := Lib.hid (X1.out.upd ((Upd.refl [] w1).alloc (.cells (nums .u32 [0, 1, 4294967295, 2147483648, 2147483647, 2147483649, 255, 65536]) 31)) (fun g hg => by simp at hg))
    have V2 := Lib.hid (V1.out.alloc (.cells (nums .u32 [0, 1, 4294967295, 2147483648, 2147483647, 2147483649, 255, 65536]) 31))
    have hne := X1.out.tb_lt
    refine (Next_calls _ _ _ _ _ 8 _ X2.out (by decide) (by decide)).mono ?_
    rintro e w3 ⟨r3, a3, hr3, rfl, T3, U3⟩
    have hc : w3.cell? ⟨w1.heap.size, r3, none⟩ = some (.int .u32 ((nth [0, 1, 4294967295, 2147483648, 2147483647, 2147483649, 255, 65536] r3 : Nat) : Int)) := by
      rw [cells_of (U3.keep K.out (by simp; omega))]
      exact nums_nth .u32 [0, 1, 4294967295, 2147483648, 2147483647, 2147483649, 255, 65536] r3 hr3
    have hl : nth [0, 1, 4294967295, 2147483648, 2147483647, 2147483649, 255, 65536] r3 < 2 ^ 32 := nthB (by decide) (by decide) r3
    generalize nth [0, 1, 4294967295, 2147483648, 2147483647, 2147483649, 255, 65536] r3 = n at hc hl
    have b1 : decide ((r3 : Int) < 8) = true := decide_eq_true (by omega)
    go_wp2_with (fail)
    go_ret
    exact ⟨n, a3, hl, rfl, T3, V2.out.trans U3⟩
  have d1 : ((r1 : Int) == 1) = false := (cast_ne_b h1).1
  clear h0 h1
  go_wp2_with (fail)
  refine (Next_calls _ _ _ _ _ 40 _ X1.out (by decide) (by decide)).mono ?_
  rintro e w2 ⟨r2, a2, hr2, rfl, T2, U2⟩
  have p1 : IntKind.u32.wrap (r2 : Int) = (r2 : Int) := wrap32 (by omega) (by omega)
  have p2 : ((r2 : Int) - 10) % 4294967296 = ((u32 ((r2 : Int) - 10) : Nat) : Int) := by rw [← wrap_u32, IntKind.wrap_u32]
  have p4 := wrap_u32 ((r2 : Int) - 10)
  have p3 := u32_lt ((r2 : Int) - 10)
  generalize u32 ((r2 : Int) - 10) = n at p2 p3 p4
  go_wp2_with (fail)
  go_ret
  exact ⟨n, a2, p3, rfl, T2, V1.out.trans U2⟩
end Go.Proofs.Ytggjmdgonjhioaa
