/- The document's memory, in memory: Words. -/
import Derived.Test.YtfnemolaoijbhacDoorRMem2
import Derived.Test.YtfnemolaoijbhacDoorMem5
import Derived.Test.YtfnemolaoijbhacDoorAsk
import Derived.Test.YtfnemolaoijbhacDoorApp
namespace Go.Proofs.YtfnemolaoijbhacDoor
open Go.RowKit Go.Dio
set_option linter.unusedSimpArgs false
set_option linter.unusedVariables false

/-- What the document's 'Words' answers. -/
def RWordsAre (l : List Nat) (w : World) (e : Ending) (w' : World) : Prop :=
  Upd [] w w' ∧ ((wrdB l = true ∧ ∃ A c, e = .returned (.tuple #[.slice A 1024 c, .int .i64 0]) ∧ NumsAt w' .u32 A (wrdV l)) ∨
    (wrdB l = false ∧ e = .returned (.tuple #[.slice none 0 0, .int .i64 25])))

set_option maxRecDepth 20000 in
set_option maxHeartbeats 2000000 in
theorem RMWords_calls (mb b d : Nat) (l : List Nat) (f a : Nat) (w : World) (h : RMemAt mb b d l f a w) (hl : l.length = 1024) :
    Calls Tryd.prog 47 #[.pointer (some ⟨mb, 0, none⟩)] w (RWordsAre l w) := by
  have H := Lib.hid h
  have HL := Lib.hid hl
  have PK := Lib.hid fun (i : Nat) w' (h : RMemAt mb b d l f a w') => RPeek_calls _ b d l f (i : Int) w' h.row
  have c0 : w.cell? ⟨mb, 0, none⟩ = some (.pointer (some ⟨b, 0, none⟩)) := by rw [cells_of h.cell]; rfl
  have c1 : w.cell? ⟨b, 0, none⟩ = some (.slice (some ⟨d, 0, none⟩) 1024 1024) := by rw [cells_of h.row.head, hl]; rfl
  clear h hl
  go_enter Tryd.func47, Tryd.ntmps47
  go_wp2_with (fail)
  clear c0 c1
  go_loopg [4, 16] 1024 (fun g v4 v16 wl => ∃ (k : Nat) (o : List Nat), v16 = .int .i64 (k : Int) ∧ k ≤ 1024 ∧ g = 1024 - k ∧ Hid (o.length = k ∧ ∀ j, j < k → nth o j = (dec (nth l j)).1 ∧ (dec (nth l j)).2 ≠ 2) ∧ Hid (wl.ownsRow w.heap.size 26 1 v4 k (vals .u32 o)) ∧ Hid (Upd [] w wl))
  case atStart => exact ⟨0, [], rfl, by omega, rfl, Lib.hid ⟨rfl, fun j hj => by omega⟩, ⟨rfl, Or.inl ⟨rfl, rfl⟩⟩, Upd.refl _ _⟩
  case round =>
    obtain ⟨k, o, rfl, hk, hg, HO, HW, U⟩ := hrel
    rcases Nat.lt_or_ge k 1024 with h1 | h1
    · have c0 : wr.cell? ⟨mb, 0, none⟩ = some (.pointer (some ⟨b, 0, none⟩)) := by rw [cells_of (U.out.keep H.out.cell (by simp))]; rfl
      have P := Lib.hid (PK.out k _ (H.out.upd0 U.out))
      rw [peek_nat' (show k < l.length by rw [HL.out]; exact h1)] at P
      obtain ⟨y, z, hyz⟩ : ∃ y z, dec (nth l k) = (y, z) := ⟨_, _, rfl⟩
      rw [hyz] at P
      have HY := Lib.hid hyz
      clear hyz
      go_wp2_with (fail)
      refine P.out.mono ?_
      rintro e w2 ⟨rfl, rfl⟩
      clear c0 P
      by_cases hz : z = 2
      · subst hz
        have HAl := Lib.hid (wrdB_not (show k < l.length by rw [HL.out]; exact h1) (by rw [HY.out]))
        go_wp2_with (fail)
        go_ret2
        exact ⟨U.out, .inr ⟨HAl.out, rfl⟩⟩
      · have dz : ((z : Int) == 2) = false := by rw [beq_eq_false_iff_ne]; omega
        have HO3 := Lib.hid (own_upd HW.out ((Upd.refl [] w2).alloc (.cells #[.int .u32 (y : Int)] 26)) (by simp))
        have UU := Lib.hid (U.out.alloc (.cells #[.int .u32 (y : Int)] 26))
        have hlow : ∀ g, u4.ownBlock = some g → w.heap.size ≤ g := fun g hg => (HO3.out.lt g hg).1
        go_wp2_with ((at_builtin; refine L_append _ (.tmp 30) (.tmp 32) 43 rfl (by kernel_rfl) w.heap.size 26 _ 1 4 Tryd.underlying43 info_w32 rfl (by omega) u4 k (vals .u32 o) rfl HO3.out (some ⟨w2.heap.size, 0, none⟩) 1 1 [.int .u32 (y : Int)] rfl rfl (srcAt_new w2 [.int .u32 (y : Int)] _) (by simp [Value.oneCell']) (by simp only [maxLen]; omega) (by omega) UU.out.size ?_))
        intro v' w' own gr at1
        have HW2 := Lib.hid own
        have UG := Lib.hid (UU.out.grown gr (fun g hg hlt => by have := hlow g hg; omega))
        clear own gr at1 HO3 UU
        go_wp2_with (fail)
        go_roundg (1024 - (k + 1))
        case measure => omega
        case rel =>
          refine ⟨k + 1, o ++ [y], by go_num, by omega, rfl, Lib.hid ⟨by rw [List.length_append, HO.out.1]; rfl, fun j hj => ?_⟩, Lib.hid (by rw [vals_append]; exact HW2.out), UG⟩
          by_cases e : j = k
          · subst e
            have e2 : nth (o ++ [y]) j = y := by unfold nth; simp [List.getD, HO.out.1]
            rw [e2, HY.out]
            exact ⟨rfl, hz⟩
          · have e2 : nth (o ++ [y]) j = nth o j := by unfold nth; simp [List.getD, List.getElem?_append_left (show j < o.length by rw [HO.out.1]; omega)]
            rw [e2]
            exact HO.out.2 j (by omega)
    · obtain rfl : k = 1024 := by omega
      have hA := wrdB_of HL.out (fun j hj => (HO.out.2 j hj).2)
      have hO : o = wrdV l := list_ext (by rw [HO.out.1]; simp [wrdV, HL.out]) fun j hj => by
        have hj : j < 1024 := by rw [← HO.out.1]; exact hj
        rw [(HO.out.2 j hj).1, wrdV_nth l (by rw [HL.out]; exact hj)]
      have HA := Lib.hid hA
      have HOW := Lib.hid hO
      clear hA hO
      obtain ⟨A', cap', rfl, hkl, -, -, hA', -⟩ := nums_of_own HW.out
      rw [HO.out.1]
      have HA' := Lib.hid hA'
      clear hkl hA' HW
      go_wp2_with (fail)
      go_ret2
      exact ⟨U.out, .inl ⟨HA.out, A', cap', rfl, by rw [← HOW.out]; exact HA'.out⟩⟩
end Go.Proofs.YtfnemolaoijbhacDoor
