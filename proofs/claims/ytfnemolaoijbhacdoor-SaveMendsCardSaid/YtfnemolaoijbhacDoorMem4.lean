/- Memory that mends itself, in memory: New, Words. -/
import Derived.Test.YtfnemolaoijbhacDoorMem
import Derived.Test.YtfnemolaoijbhacDoorApp
namespace Go.Proofs.YtfnemolaoijbhacDoor
open Go.RowKit Go.Dio
set_option linter.unusedSimpArgs false
set_option linter.unusedVariables false

/-- An image's words. -/
def newL (ns : List Nat) : List Nat := (List.range 1024).map fun j => enc (nth ns j)
theorem newL_len (ns : List Nat) : (newL ns).length = 1024 := by simp [newL]
theorem newL_nth (ns : List Nat) {j : Nat} (h : j < 1024) : nth (newL ns) j = enc (nth ns j) := by
  rw [nth_eq _ _ (by rw [newL_len]; exact h)]; simp [newL]
theorem list_ext {l m : List Nat} (h : l.length = m.length) (he : ∀ j, j < l.length → nth l j = nth m j) : l = m :=
  List.ext_getElem h fun i h1 h2 => by rw [← nth_eq l i h1, ← nth_eq m i h2]; exact he i h1
theorem enc_zero : enc 0 = 0 := by decide +kernel

set_option maxHeartbeats 1000000 in
theorem MNew_long (A : Option Addr) (n c : Nat) (w : World) (h : 1024 < n) (hn : n ≤ 9223372036854775807) :
    Calls Tryd.prog 18 #[.slice A n c] w fun e w' => e = .returned (.tuple #[.pointer none, .int .i64 3]) ∧ w' = w := by
  have hd : decide ((1024 : Int) < (n : Int)) = true := by rw [decide_eq_true_iff]; omega
  go_enter Tryd.func18, Tryd.ntmps18
  go_wp2_with (fail)
  go_ret2
  exact ⟨rfl, rfl⟩

set_option maxRecDepth 20000 in
set_option maxHeartbeats 2000000 in
theorem MNew_calls (A : Option Addr) (ns : List Nat) (c : Nat) (w : World) (hA : NumsAt w .u32 A ns) (hs : ∀ x ∈ ns, x < 2 ^ 32) (hl : ns.length ≤ 1024) (hT : Tz w) :
    Calls Tryd.prog 18 #[.slice A ns.length c] w fun e w' => e = .returned (.tuple #[.pointer (some ⟨w.heap.size + 2, 0, none⟩), .int .i64 0]) ∧ MemAt (w.heap.size + 2) (w.heap.size + 1) w.heap.size (newL ns) 0 0 w' ∧ Upd [] w w' := by
  have hN : Calls Tryd.prog 31 #[.int .i64 1024] w fun e w' => e = .returned (.pointer (some ⟨w.heap.size + 1, 0, none⟩)) ∧ RowAt 94 (w.heap.size + 1) w.heap.size (List.replicate 1024 0) 0 w' ∧ Upd [] w w' ∧ w'.heap.size = w.heap.size + 2 := New_size 1024 1024 w hT (by decide)
  obtain ⟨l0, hl0⟩ : ∃ l0, l0 = List.replicate 1024 0 := ⟨_, rfl⟩
  have n0 : Hid (l0.length = 1024 ∧ ∀ j, nth l0 j = 0) := Lib.hid ⟨by rw [hl0]; simp, fun j => by
    rw [hl0]; unfold nth; rw [List.getD, List.getElem?_replicate]; split <;> rfl⟩
  rw [← hl0] at hN
  have N := Lib.hid hN
  have HA := Lib.hid hA
  have HS := Lib.hid fun i => nth_lt hs (by decide) i
  have hz0 := hT.lt
  clear hl0 hN hA hs hT
  obtain ⟨M, hM⟩ : ∃ M, M = ns.length := ⟨_, rfl⟩
  rw [← hM] at hl ⊢
  have HM := Lib.hid hM
  obtain ⟨R, hR⟩ : ∃ R, R = newL ns := ⟨_, rfl⟩
  rw [← hR]
  have HR := Lib.hid hR
  clear hM hR
  go_enter Tryd.func18, Tryd.ntmps18
  go_wp2_with (fail)
  refine N.out.mono ?_
  rintro e w1 ⟨rfl, r, u, hz⟩
  have R1 := Lib.hid r
  have U1 := Lib.hid u
  have HZ := Lib.hid hz
  clear r u hz
  go_wp2_with (fail)
  generalize hmb : w1.heap.size = mb
  have H0 : Hid (MemAt mb (w.heap.size + 1) w.heap.size l0 0 0 (w1.alloc (.cells #[.pointer (some ⟨w.heap.size + 1, 0, none⟩), .int .i64 0] 77))) := by
    have hz := HZ.out
    refine Lib.hid ⟨?_, R1.out.upd0 ((Upd.refl _ _).alloc _), by omega, by omega, by omega⟩
    rw [← hmb]; exact Go.heap_alloc_last w1 _
  have U2 := Lib.hid (U1.out.alloc (.cells #[.pointer (some ⟨w.heap.size + 1, 0, none⟩), .int .i64 0] 77))
  have HMB := Lib.hid (show mb = w.heap.size + 2 by rw [← hmb]; exact HZ.out)
  clear hmb HZ R1 U1
  generalize w1.alloc (.cells #[.pointer (some ⟨w.heap.size + 1, 0, none⟩), .int .i64 0] 77) = w2 at H0 U2 ⊢
  go_loopg [15] M (fun g v15 wl => ∃ (k : Nat) (l : List Nat), v15 = .int .i64 (k : Int) ∧ k ≤ M ∧ g = M - k ∧ Hid (l.length = 1024 ∧ ∀ j, j < 1024 → nth l j = if j < k then enc (nth ns j) else 0) ∧ Hid (MemAt mb (w.heap.size + 1) w.heap.size l 0 0 wl) ∧ Hid (Upd [] w wl))
  case atStart => exact ⟨0, l0, rfl, by omega, rfl, Lib.hid ⟨n0.out.1, fun j _ => by rw [n0.out.2 j, if_neg (by omega)]⟩, H0, U2⟩
  case round =>
    clear H0 U2
    obtain ⟨k, l, rfl, hk, hg, HL, H, U⟩ := hrel
    rcases Nat.lt_or_ge k M with hkM | hkM
    · obtain ⟨ba, oa, rfl, hba, hca⟩ := HA.out (by rw [← HM.out]; omega)
      have cn : wr.cell? ⟨ba, oa + k, none⟩ = some (.int .u32 ((nth ns k : Nat) : Int)) := by
        rw [← hca k (by rw [← HM.out]; omega)]; exact World.cell?_of_block (w := w) (U.out.block ba hba (by simp))
      have c0 : wr.cell? ⟨mb, 0, none⟩ = some (.pointer (some ⟨w.heap.size + 1, 0, none⟩)) := by rw [cells_of H.out.cell]; rfl
      have hn := HS.out k
      have hkl : k < l.length := by rw [HL.out.1]; omega
      have P := Put_calls _ _ _ l 0 (k : Int) (nth ns k) wr H.out.row hn
      rw [inn_of (by omega) (by omega), put_nat hkl] at P
      replace P := Lib.hid P
      have HL2 := Lib.hid (show (l.set k (enc (nth ns k))).length = 1024 ∧ ∀ j, j < 1024 → nth (l.set k (enc (nth ns k))) j = if j < k + 1 then enc (nth ns j) else 0 from ⟨by simpa using HL.out.1, fun j hj => by
        by_cases e : j = k
        · subst e; rw [nth_set_eq hkl, if_pos (by omega)]
        · rw [nth_set_ne (by omega), HL.out.2 j hj]; split <;> split <;> first | rfl | omega⟩)
      clear hca hkl
      generalize nth ns k = n at cn hn P HL2
      go_wp2_with (fail)
      refine P.out.mono ?_
      rintro e w3 ⟨rfl, r, u⟩
      have H3 := Lib.hid (H.out.step r u (by simp))
      have U3 := Lib.hid (U.out.then u (fun x hx hlt => by simp at hx; omega))
      clear r u P cn c0
      go_wp2_with (fail)
      go_roundg (M - (k + 1))
      case measure => omega
      case rel => exact ⟨k + 1, l.set k (enc n), by go_num, by omega, rfl, HL2, H3, U3⟩
    · obtain rfl : k = M := by omega
      go_wp2_with (fail)
      go_ret2
      have e : l = R := by
        rw [HR.out]
        refine list_ext (by rw [HL.out.1, newL_len]) fun j hj => ?_
        have hj : j < 1024 := by rw [← HL.out.1]; exact hj
        rw [HL.out.2 j hj, newL_nth ns hj]
        split
        · rfl
        · rw [show nth ns j = 0 by simp [nth, show ns.length ≤ j by rw [← HM.out]; omega], enc_zero]
      have hmb := HMB.out
      subst hmb
      subst e
      exact ⟨rfl, H.out, U.out⟩
end Go.Proofs.YtfnemolaoijbhacDoor
