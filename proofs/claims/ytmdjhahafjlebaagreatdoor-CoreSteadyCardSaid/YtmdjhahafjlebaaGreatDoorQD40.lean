/- The reference's causes of traps. -/
import Derived.Test.YtmdjhahafjlebaaGreatDoorQD26
import Derived.Test.YtmdjhahafjlebaaGreatDoorQD24
namespace Go.Proofs.YtmdjhahafjlebaaGreatDoor
open Go.RowKit Go.Dio
set_option linter.unusedSimpArgs false
set_option linter.unusedVariables false

theorem r7inside_calls (a : Nat) (z : World) : Calls Tryz.prog 84 #[.int .u32 (a : Int)] z fun e z' => e = .returned (.bool (decide (a < 4096))) ∧ z' = z := by
  have h : decide ((a : Int) < 4096) = decide (a < 4096) := by have := dec_nat_lt a 4096; exact this
  generalize hd : decide (a < 4096) = d at h ⊢
  have HD := Lib.hid hd
  clear hd
  go_enter Tryz.func84, Tryz.ntmps84
  go_wp2_with (fail)
  go_ret
  exact ⟨by first | rfl | (rw [← HD.out]; rfl), rfl⟩
theorem r7device_calls (a : Nat) (z : World) : Calls Tryz.prog 151 #[.int .u32 (a : Int)] z fun e z' => e = .returned (.bool (devP a)) ∧ z' = z := by
  by_cases h1 : a = 268435456
  · have d1 : ((a : Int) == 268435456) = true := (cast_eq_b h1).1
    have HD := Lib.hid (show devP a = true by unfold devP; rw [decide_eq_true h1]; rfl)
    clear h1
    go_enter Tryz.func151, Tryz.ntmps151
    go_wp2_with (fail)
    go_ret
    exact ⟨by rw [HD.out]; rfl, rfl⟩
  · have d1 : ((a : Int) == 268435456) = false := (cast_ne_b h1).1
    by_cases h2 : a = 268435460
    · have d2 : ((a : Int) == 268435460) = true := (cast_eq_b h2).1
      have HD := Lib.hid (show devP a = true by unfold devP; rw [decide_eq_true h2]; simp)
      clear h1 h2
      go_enter Tryz.func151, Tryz.ntmps151
      go_wp2_with (fail)
      go_ret
      exact ⟨by rw [HD.out]; rfl, rfl⟩
    · have d2 : ((a : Int) == 268435460) = false := (cast_ne_b h2).1
      have HD := Lib.hid (show devP a = false by unfold devP; rw [decide_eq_false h1, decide_eq_false h2]; rfl)
      clear h1 h2
      go_enter Tryz.func151, Tryz.ntmps151
      go_wp2_with (fail)
      go_ret
      exact ⟨by rw [HD.out]; rfl, rfl⟩
theorem r7fetch_calls (pc : Nat) (z : World) (hp : pc < 2 ^ 32) : Calls Tryz.prog 53 #[.int .u32 (pc : Int)] z fun e z' => e = .returned (.tuple #[.int .i64 (((fetchP pc).1 : Nat) : Int), .bool (fetchP pc).2]) ∧ z' = z := by
  have hm : ((pc % 4 : Nat) : Int) = (pc : Int) % 4 := by omega
  have h3 : (pc : Int).tmod 4 = (pc : Int) % 4 := by rw [Int.tmod_eq_emod_of_nonneg (by omega)]
  by_cases h1 : pc % 4 = 0
  · have d1 : ((pc : Int) % 4 != 0) = false := by rw [← hm]; exact (cast_eq_b h1).2
    have I := Lib.hid (fun z => r7inside_calls pc z)
    by_cases h2 : pc < 4096
    · have HD := Lib.hid (show fetchP pc = (0, false) by unfold fetchP; rw [if_neg (by omega), if_neg (by omega)])
      rw [decide_eq_true h2] at I
      clear h1 h2 hm
      go_enter Tryz.func53, Tryz.ntmps53
      go_wp2_with (fail)
      refine (I.out _).mono ?_
      rintro e z1 ⟨rfl, rfl⟩
      go_wp2_with (fail)
      go_ret2
      exact ⟨by rw [HD.out]; rfl, rfl⟩
    · have HD := Lib.hid (show fetchP pc = (1, true) by unfold fetchP; rw [if_neg (by omega), if_pos (by omega)])
      rw [decide_eq_false h2] at I
      clear h1 h2 hm
      go_enter Tryz.func53, Tryz.ntmps53
      go_wp2_with (fail)
      refine (I.out _).mono ?_
      rintro e z1 ⟨rfl, rfl⟩
      go_wp2_with (fail)
      go_ret2
      exact ⟨by rw [HD.out]; rfl, rfl⟩
  · have d1 : ((pc : Int) % 4 != 0) = true := by rw [← hm]; exact (cast_ne_b h1).2
    have HD := Lib.hid (show fetchP pc = (0, true) by unfold fetchP; rw [if_pos h1])
    clear h1 hm
    go_enter Tryz.func53, Tryz.ntmps53
    go_wp2_with (fail)
    go_ret2
    exact ⟨by rw [HD.out]; rfl, rfl⟩
theorem r7access_calls (op addr : Nat) (z : World) (ho : op ≤ 55) (ha : addr < 2 ^ 32) :
    Calls Tryz.prog 131 #[.int .i64 (op : Int), .int .u32 (addr : Int)] z fun e z' => e = .returned (.tuple #[.int .i64 (((accessP op addr).1 : Nat) : Int), .bool (accessP op addr).2]) ∧ z' = z := by
  rcases (by omega : op = 11 ∨ op = 12 ∨ op = 13 ∨ op = 14 ∨ op = 15 ∨ op = 16 ∨ op = 17 ∨ op = 18 ∨ (op < 11 ∨ 18 < op)) with rfl | rfl | rfl | rfl | rfl | rfl | rfl | rfl | h
  ·
    have S : Hid (∀ z : World, Calls Tryz.prog 96 #[.int .i64 11] z fun e z' => e = .returned (.int .i64 1) ∧ z' = z) := Lib.hid (fun z => r7size_calls 11 z (by decide))
    have F := Lib.hid (fun z => r7fits_calls 11 addr z (by decide) ha)
    have I := Lib.hid (fun z => r7inside_calls addr z)
    cases hf : fitsP 11 addr
    · have HD := Lib.hid (show accessP 11 addr = (4, true) by unfold accessP; rw [if_neg (by decide), if_pos hf]; rfl)
      rw [hf] at F
      clear hf
      go_enter Tryz.func131, Tryz.ntmps131
      go_wp2_with (fail)
      refine (S.out _).mono ?_
      rintro e z1 ⟨rfl, rfl⟩
      go_wp2_with (fail)
      refine (F.out _).mono ?_
      rintro e z1 ⟨rfl, rfl⟩
      go_wp2_with (fail)
      go_ret2
      exact ⟨by rw [HD.out]; rfl, rfl⟩
    · by_cases h2 : addr < 4096
      · have HD := Lib.hid (show accessP 11 addr = (0, false) by unfold accessP; rw [if_neg (by decide), if_neg (by rw [hf]; decide), if_pos (Or.inl h2)])
        rw [hf] at F
        rw [decide_eq_true h2] at I
        clear hf h2
        go_enter Tryz.func131, Tryz.ntmps131
        go_wp2_with (fail)
        refine (S.out _).mono ?_
        rintro e z1 ⟨rfl, rfl⟩
        go_wp2_with (fail)
        refine (F.out _).mono ?_
        rintro e z1 ⟨rfl, rfl⟩
        go_wp2_with (fail)
        refine (I.out _).mono ?_
        rintro e z1 ⟨rfl, rfl⟩
        go_wp2_with (fail)
        go_ret2
        exact ⟨by rw [HD.out]; rfl, rfl⟩
      · have HD := Lib.hid (show accessP 11 addr = (5, true) by unfold accessP; rw [if_neg (by decide), if_neg (by rw [hf]; decide), if_neg (by omega)]; rfl)
        rw [hf] at F
        rw [decide_eq_false h2] at I
        clear hf h2
        go_enter Tryz.func131, Tryz.ntmps131
        go_wp2_with (fail)
        refine (S.out _).mono ?_
        rintro e z1 ⟨rfl, rfl⟩
        go_wp2_with (fail)
        refine (F.out _).mono ?_
        rintro e z1 ⟨rfl, rfl⟩
        go_wp2_with (fail)
        refine (I.out _).mono ?_
        rintro e z1 ⟨rfl, rfl⟩
        go_wp2_with (fail)
        go_ret2
        exact ⟨by rw [HD.out]; rfl, rfl⟩
  ·
    have S : Hid (∀ z : World, Calls Tryz.prog 96 #[.int .i64 12] z fun e z' => e = .returned (.int .i64 2) ∧ z' = z) := Lib.hid (fun z => r7size_calls 12 z (by decide))
    have F := Lib.hid (fun z => r7fits_calls 12 addr z (by decide) ha)
    have I := Lib.hid (fun z => r7inside_calls addr z)
    cases hf : fitsP 12 addr
    · have HD := Lib.hid (show accessP 12 addr = (4, true) by unfold accessP; rw [if_neg (by decide), if_pos hf]; rfl)
      rw [hf] at F
      clear hf
      go_enter Tryz.func131, Tryz.ntmps131
      go_wp2_with (fail)
      refine (S.out _).mono ?_
      rintro e z1 ⟨rfl, rfl⟩
      go_wp2_with (fail)
      refine (F.out _).mono ?_
      rintro e z1 ⟨rfl, rfl⟩
      go_wp2_with (fail)
      go_ret2
      exact ⟨by rw [HD.out]; rfl, rfl⟩
    · by_cases h2 : addr < 4096
      · have HD := Lib.hid (show accessP 12 addr = (0, false) by unfold accessP; rw [if_neg (by decide), if_neg (by rw [hf]; decide), if_pos (Or.inl h2)])
        rw [hf] at F
        rw [decide_eq_true h2] at I
        clear hf h2
        go_enter Tryz.func131, Tryz.ntmps131
        go_wp2_with (fail)
        refine (S.out _).mono ?_
        rintro e z1 ⟨rfl, rfl⟩
        go_wp2_with (fail)
        refine (F.out _).mono ?_
        rintro e z1 ⟨rfl, rfl⟩
        go_wp2_with (fail)
        refine (I.out _).mono ?_
        rintro e z1 ⟨rfl, rfl⟩
        go_wp2_with (fail)
        go_ret2
        exact ⟨by rw [HD.out]; rfl, rfl⟩
      · have HD := Lib.hid (show accessP 12 addr = (5, true) by unfold accessP; rw [if_neg (by decide), if_neg (by rw [hf]; decide), if_neg (by omega)]; rfl)
        rw [hf] at F
        rw [decide_eq_false h2] at I
        clear hf h2
        go_enter Tryz.func131, Tryz.ntmps131
        go_wp2_with (fail)
        refine (S.out _).mono ?_
        rintro e z1 ⟨rfl, rfl⟩
        go_wp2_with (fail)
        refine (F.out _).mono ?_
        rintro e z1 ⟨rfl, rfl⟩
        go_wp2_with (fail)
        refine (I.out _).mono ?_
        rintro e z1 ⟨rfl, rfl⟩
        go_wp2_with (fail)
        go_ret2
        exact ⟨by rw [HD.out]; rfl, rfl⟩
  ·
    have S : Hid (∀ z : World, Calls Tryz.prog 96 #[.int .i64 13] z fun e z' => e = .returned (.int .i64 4) ∧ z' = z) := Lib.hid (fun z => r7size_calls 13 z (by decide))
    have F := Lib.hid (fun z => r7fits_calls 13 addr z (by decide) ha)
    have I := Lib.hid (fun z => r7inside_calls addr z)
    cases hf : fitsP 13 addr
    · have HD := Lib.hid (show accessP 13 addr = (4, true) by unfold accessP; rw [if_neg (by decide), if_pos hf]; rfl)
      rw [hf] at F
      clear hf
      go_enter Tryz.func131, Tryz.ntmps131
      go_wp2_with (fail)
      refine (S.out _).mono ?_
      rintro e z1 ⟨rfl, rfl⟩
      go_wp2_with (fail)
      refine (F.out _).mono ?_
      rintro e z1 ⟨rfl, rfl⟩
      go_wp2_with (fail)
      go_ret2
      exact ⟨by rw [HD.out]; rfl, rfl⟩
    · by_cases h2 : addr < 4096
      · have HD := Lib.hid (show accessP 13 addr = (0, false) by unfold accessP; rw [if_neg (by decide), if_neg (by rw [hf]; decide), if_pos (Or.inl h2)])
        rw [hf] at F
        rw [decide_eq_true h2] at I
        clear hf h2
        go_enter Tryz.func131, Tryz.ntmps131
        go_wp2_with (fail)
        refine (S.out _).mono ?_
        rintro e z1 ⟨rfl, rfl⟩
        go_wp2_with (fail)
        refine (F.out _).mono ?_
        rintro e z1 ⟨rfl, rfl⟩
        go_wp2_with (fail)
        refine (I.out _).mono ?_
        rintro e z1 ⟨rfl, rfl⟩
        go_wp2_with (fail)
        go_ret2
        exact ⟨by rw [HD.out]; rfl, rfl⟩
      · have HD := Lib.hid (show accessP 13 addr = (5, true) by unfold accessP; rw [if_neg (by decide), if_neg (by rw [hf]; decide), if_neg (by omega)]; rfl)
        rw [hf] at F
        rw [decide_eq_false h2] at I
        clear hf h2
        go_enter Tryz.func131, Tryz.ntmps131
        go_wp2_with (fail)
        refine (S.out _).mono ?_
        rintro e z1 ⟨rfl, rfl⟩
        go_wp2_with (fail)
        refine (F.out _).mono ?_
        rintro e z1 ⟨rfl, rfl⟩
        go_wp2_with (fail)
        refine (I.out _).mono ?_
        rintro e z1 ⟨rfl, rfl⟩
        go_wp2_with (fail)
        go_ret2
        exact ⟨by rw [HD.out]; rfl, rfl⟩
  ·
    have S : Hid (∀ z : World, Calls Tryz.prog 96 #[.int .i64 14] z fun e z' => e = .returned (.int .i64 1) ∧ z' = z) := Lib.hid (fun z => r7size_calls 14 z (by decide))
    have F := Lib.hid (fun z => r7fits_calls 14 addr z (by decide) ha)
    have I := Lib.hid (fun z => r7inside_calls addr z)
    cases hf : fitsP 14 addr
    · have HD := Lib.hid (show accessP 14 addr = (4, true) by unfold accessP; rw [if_neg (by decide), if_pos hf]; rfl)
      rw [hf] at F
      clear hf
      go_enter Tryz.func131, Tryz.ntmps131
      go_wp2_with (fail)
      refine (S.out _).mono ?_
      rintro e z1 ⟨rfl, rfl⟩
      go_wp2_with (fail)
      refine (F.out _).mono ?_
      rintro e z1 ⟨rfl, rfl⟩
      go_wp2_with (fail)
      go_ret2
      exact ⟨by rw [HD.out]; rfl, rfl⟩
    · by_cases h2 : addr < 4096
      · have HD := Lib.hid (show accessP 14 addr = (0, false) by unfold accessP; rw [if_neg (by decide), if_neg (by rw [hf]; decide), if_pos (Or.inl h2)])
        rw [hf] at F
        rw [decide_eq_true h2] at I
        clear hf h2
        go_enter Tryz.func131, Tryz.ntmps131
        go_wp2_with (fail)
        refine (S.out _).mono ?_
        rintro e z1 ⟨rfl, rfl⟩
        go_wp2_with (fail)
        refine (F.out _).mono ?_
        rintro e z1 ⟨rfl, rfl⟩
        go_wp2_with (fail)
        refine (I.out _).mono ?_
        rintro e z1 ⟨rfl, rfl⟩
        go_wp2_with (fail)
        go_ret2
        exact ⟨by rw [HD.out]; rfl, rfl⟩
      · have HD := Lib.hid (show accessP 14 addr = (5, true) by unfold accessP; rw [if_neg (by decide), if_neg (by rw [hf]; decide), if_neg (by omega)]; rfl)
        rw [hf] at F
        rw [decide_eq_false h2] at I
        clear hf h2
        go_enter Tryz.func131, Tryz.ntmps131
        go_wp2_with (fail)
        refine (S.out _).mono ?_
        rintro e z1 ⟨rfl, rfl⟩
        go_wp2_with (fail)
        refine (F.out _).mono ?_
        rintro e z1 ⟨rfl, rfl⟩
        go_wp2_with (fail)
        refine (I.out _).mono ?_
        rintro e z1 ⟨rfl, rfl⟩
        go_wp2_with (fail)
        go_ret2
        exact ⟨by rw [HD.out]; rfl, rfl⟩
  ·
    have S : Hid (∀ z : World, Calls Tryz.prog 96 #[.int .i64 15] z fun e z' => e = .returned (.int .i64 2) ∧ z' = z) := Lib.hid (fun z => r7size_calls 15 z (by decide))
    have F := Lib.hid (fun z => r7fits_calls 15 addr z (by decide) ha)
    have I := Lib.hid (fun z => r7inside_calls addr z)
    cases hf : fitsP 15 addr
    · have HD := Lib.hid (show accessP 15 addr = (4, true) by unfold accessP; rw [if_neg (by decide), if_pos hf]; rfl)
      rw [hf] at F
      clear hf
      go_enter Tryz.func131, Tryz.ntmps131
      go_wp2_with (fail)
      refine (S.out _).mono ?_
      rintro e z1 ⟨rfl, rfl⟩
      go_wp2_with (fail)
      refine (F.out _).mono ?_
      rintro e z1 ⟨rfl, rfl⟩
      go_wp2_with (fail)
      go_ret2
      exact ⟨by rw [HD.out]; rfl, rfl⟩
    · by_cases h2 : addr < 4096
      · have HD := Lib.hid (show accessP 15 addr = (0, false) by unfold accessP; rw [if_neg (by decide), if_neg (by rw [hf]; decide), if_pos (Or.inl h2)])
        rw [hf] at F
        rw [decide_eq_true h2] at I
        clear hf h2
        go_enter Tryz.func131, Tryz.ntmps131
        go_wp2_with (fail)
        refine (S.out _).mono ?_
        rintro e z1 ⟨rfl, rfl⟩
        go_wp2_with (fail)
        refine (F.out _).mono ?_
        rintro e z1 ⟨rfl, rfl⟩
        go_wp2_with (fail)
        refine (I.out _).mono ?_
        rintro e z1 ⟨rfl, rfl⟩
        go_wp2_with (fail)
        go_ret2
        exact ⟨by rw [HD.out]; rfl, rfl⟩
      · have HD := Lib.hid (show accessP 15 addr = (5, true) by unfold accessP; rw [if_neg (by decide), if_neg (by rw [hf]; decide), if_neg (by omega)]; rfl)
        rw [hf] at F
        rw [decide_eq_false h2] at I
        clear hf h2
        go_enter Tryz.func131, Tryz.ntmps131
        go_wp2_with (fail)
        refine (S.out _).mono ?_
        rintro e z1 ⟨rfl, rfl⟩
        go_wp2_with (fail)
        refine (F.out _).mono ?_
        rintro e z1 ⟨rfl, rfl⟩
        go_wp2_with (fail)
        refine (I.out _).mono ?_
        rintro e z1 ⟨rfl, rfl⟩
        go_wp2_with (fail)
        go_ret2
        exact ⟨by rw [HD.out]; rfl, rfl⟩
  ·
    have S : Hid (∀ z : World, Calls Tryz.prog 96 #[.int .i64 16] z fun e z' => e = .returned (.int .i64 1) ∧ z' = z) := Lib.hid (fun z => r7size_calls 16 z (by decide))
    have F := Lib.hid (fun z => r7fits_calls 16 addr z (by decide) ha)
    have I := Lib.hid (fun z => r7inside_calls addr z)
    cases hf : fitsP 16 addr
    · have HD := Lib.hid (show accessP 16 addr = (6, true) by unfold accessP; rw [if_neg (by decide), if_pos hf]; rfl)
      rw [hf] at F
      clear hf
      go_enter Tryz.func131, Tryz.ntmps131
      go_wp2_with (fail)
      refine (S.out _).mono ?_
      rintro e z1 ⟨rfl, rfl⟩
      go_wp2_with (fail)
      refine (F.out _).mono ?_
      rintro e z1 ⟨rfl, rfl⟩
      go_wp2_with (fail)
      go_ret2
      exact ⟨by rw [HD.out]; rfl, rfl⟩
    · by_cases h2 : addr < 4096
      · have HD := Lib.hid (show accessP 16 addr = (0, false) by unfold accessP; rw [if_neg (by decide), if_neg (by rw [hf]; decide), if_pos (Or.inl h2)])
        rw [hf] at F
        rw [decide_eq_true h2] at I
        clear hf h2
        go_enter Tryz.func131, Tryz.ntmps131
        go_wp2_with (fail)
        refine (S.out _).mono ?_
        rintro e z1 ⟨rfl, rfl⟩
        go_wp2_with (fail)
        refine (F.out _).mono ?_
        rintro e z1 ⟨rfl, rfl⟩
        go_wp2_with (fail)
        refine (I.out _).mono ?_
        rintro e z1 ⟨rfl, rfl⟩
        go_wp2_with (fail)
        go_ret2
        exact ⟨by rw [HD.out]; rfl, rfl⟩
      · have HD := Lib.hid (show accessP 16 addr = (7, true) by unfold accessP; rw [if_neg (by decide), if_neg (by rw [hf]; decide), if_neg (by omega)]; rfl)
        rw [hf] at F
        rw [decide_eq_false h2] at I
        clear hf h2
        go_enter Tryz.func131, Tryz.ntmps131
        go_wp2_with (fail)
        refine (S.out _).mono ?_
        rintro e z1 ⟨rfl, rfl⟩
        go_wp2_with (fail)
        refine (F.out _).mono ?_
        rintro e z1 ⟨rfl, rfl⟩
        go_wp2_with (fail)
        refine (I.out _).mono ?_
        rintro e z1 ⟨rfl, rfl⟩
        go_wp2_with (fail)
        go_ret2
        exact ⟨by rw [HD.out]; rfl, rfl⟩
  ·
    have S : Hid (∀ z : World, Calls Tryz.prog 96 #[.int .i64 17] z fun e z' => e = .returned (.int .i64 2) ∧ z' = z) := Lib.hid (fun z => r7size_calls 17 z (by decide))
    have F := Lib.hid (fun z => r7fits_calls 17 addr z (by decide) ha)
    have I := Lib.hid (fun z => r7inside_calls addr z)
    cases hf : fitsP 17 addr
    · have HD := Lib.hid (show accessP 17 addr = (6, true) by unfold accessP; rw [if_neg (by decide), if_pos hf]; rfl)
      rw [hf] at F
      clear hf
      go_enter Tryz.func131, Tryz.ntmps131
      go_wp2_with (fail)
      refine (S.out _).mono ?_
      rintro e z1 ⟨rfl, rfl⟩
      go_wp2_with (fail)
      refine (F.out _).mono ?_
      rintro e z1 ⟨rfl, rfl⟩
      go_wp2_with (fail)
      go_ret2
      exact ⟨by rw [HD.out]; rfl, rfl⟩
    · by_cases h2 : addr < 4096
      · have HD := Lib.hid (show accessP 17 addr = (0, false) by unfold accessP; rw [if_neg (by decide), if_neg (by rw [hf]; decide), if_pos (Or.inl h2)])
        rw [hf] at F
        rw [decide_eq_true h2] at I
        clear hf h2
        go_enter Tryz.func131, Tryz.ntmps131
        go_wp2_with (fail)
        refine (S.out _).mono ?_
        rintro e z1 ⟨rfl, rfl⟩
        go_wp2_with (fail)
        refine (F.out _).mono ?_
        rintro e z1 ⟨rfl, rfl⟩
        go_wp2_with (fail)
        refine (I.out _).mono ?_
        rintro e z1 ⟨rfl, rfl⟩
        go_wp2_with (fail)
        go_ret2
        exact ⟨by rw [HD.out]; rfl, rfl⟩
      · have HD := Lib.hid (show accessP 17 addr = (7, true) by unfold accessP; rw [if_neg (by decide), if_neg (by rw [hf]; decide), if_neg (by omega)]; rfl)
        rw [hf] at F
        rw [decide_eq_false h2] at I
        clear hf h2
        go_enter Tryz.func131, Tryz.ntmps131
        go_wp2_with (fail)
        refine (S.out _).mono ?_
        rintro e z1 ⟨rfl, rfl⟩
        go_wp2_with (fail)
        refine (F.out _).mono ?_
        rintro e z1 ⟨rfl, rfl⟩
        go_wp2_with (fail)
        refine (I.out _).mono ?_
        rintro e z1 ⟨rfl, rfl⟩
        go_wp2_with (fail)
        go_ret2
        exact ⟨by rw [HD.out]; rfl, rfl⟩
  ·
    have S : Hid (∀ z : World, Calls Tryz.prog 96 #[.int .i64 18] z fun e z' => e = .returned (.int .i64 4) ∧ z' = z) := Lib.hid (fun z => r7size_calls 18 z (by decide))
    have F := Lib.hid (fun z => r7fits_calls 18 addr z (by decide) ha)
    have I := Lib.hid (fun z => r7inside_calls addr z)
    cases hf : fitsP 18 addr
    · have HD := Lib.hid (show accessP 18 addr = (6, true) by unfold accessP; rw [if_neg (by decide), if_pos hf]; rfl)
      rw [hf] at F
      clear hf
      go_enter Tryz.func131, Tryz.ntmps131
      go_wp2_with (fail)
      refine (S.out _).mono ?_
      rintro e z1 ⟨rfl, rfl⟩
      go_wp2_with (fail)
      refine (F.out _).mono ?_
      rintro e z1 ⟨rfl, rfl⟩
      go_wp2_with (fail)
      go_ret2
      exact ⟨by rw [HD.out]; rfl, rfl⟩
    · by_cases h2 : addr < 4096
      · have HD := Lib.hid (show accessP 18 addr = (0, false) by unfold accessP; rw [if_neg (by decide), if_neg (by rw [hf]; decide), if_pos (Or.inl h2)])
        rw [hf] at F
        rw [decide_eq_true h2] at I
        clear hf h2
        go_enter Tryz.func131, Tryz.ntmps131
        go_wp2_with (fail)
        refine (S.out _).mono ?_
        rintro e z1 ⟨rfl, rfl⟩
        go_wp2_with (fail)
        refine (F.out _).mono ?_
        rintro e z1 ⟨rfl, rfl⟩
        go_wp2_with (fail)
        refine (I.out _).mono ?_
        rintro e z1 ⟨rfl, rfl⟩
        go_wp2_with (fail)
        go_ret2
        exact ⟨by rw [HD.out]; rfl, rfl⟩
      · have V := Lib.hid (fun z => r7device_calls addr z)
        cases hv : devP addr
        · have HD := Lib.hid (show accessP 18 addr = (7, true) by unfold accessP; rw [if_neg (by decide), if_neg (by rw [hf]; decide), if_neg (by simp [h2, hv])]; rfl)
          rw [hf] at F
          rw [decide_eq_false h2] at I
          rw [hv] at V
          clear hf h2 hv
          go_enter Tryz.func131, Tryz.ntmps131
          go_wp2_with (fail)
          refine (S.out _).mono ?_
          rintro e z1 ⟨rfl, rfl⟩
          go_wp2_with (fail)
          refine (F.out _).mono ?_
          rintro e z1 ⟨rfl, rfl⟩
          go_wp2_with (fail)
          refine (I.out _).mono ?_
          rintro e z1 ⟨rfl, rfl⟩
          go_wp2_with (fail)
          refine (V.out _).mono ?_
          rintro e z1 ⟨rfl, rfl⟩
          go_wp2_with (fail)
          go_ret2
          exact ⟨by rw [HD.out]; rfl, rfl⟩
        · have HD := Lib.hid (show accessP 18 addr = (0, false) by unfold accessP; rw [if_neg (by decide), if_neg (by rw [hf]; decide), if_pos (by simp [hv])])
          rw [hf] at F
          rw [decide_eq_false h2] at I
          rw [hv] at V
          clear hf h2 hv
          go_enter Tryz.func131, Tryz.ntmps131
          go_wp2_with (fail)
          refine (S.out _).mono ?_
          rintro e z1 ⟨rfl, rfl⟩
          go_wp2_with (fail)
          refine (F.out _).mono ?_
          rintro e z1 ⟨rfl, rfl⟩
          go_wp2_with (fail)
          refine (I.out _).mono ?_
          rintro e z1 ⟨rfl, rfl⟩
          go_wp2_with (fail)
          refine (V.out _).mono ?_
          rintro e z1 ⟨rfl, rfl⟩
          go_wp2_with (fail)
          go_ret2
          exact ⟨by rw [HD.out]; rfl, rfl⟩
  · rw [accessP_no op addr h]
    have S := Lib.hid (fun z => r7size_calls op z ho)
    rw [sizeP_no op h] at S
    clear h
    go_enter Tryz.func131, Tryz.ntmps131
    go_wp2_with (fail)
    refine (S.out _).mono ?_
    rintro e z1 ⟨rfl, rfl⟩
    go_wp2_with (fail)
    go_ret2
    exact ⟨rfl, rfl⟩
set_option maxHeartbeats 1000000 in
theorem r7index_calls (c : Int) (z : World) : Calls Tryz.prog 134 #[.int .i64 c] z fun e z' => e = .returned (.int .i64 (idxP c)) ∧ Upd [] z z' := by
  have hA := numsAt_new z .i64 csrL 3
  have U := Lib.hid ((Upd.refl [] z).alloc (.cells (nums .i64 csrL) 3))
  go_enter Tryz.func134, Tryz.ntmps134
  go_wp2_with (fail)
  generalize hW : World.alloc z _ = W
  have hW2 : z.alloc (.cells (nums .i64 csrL) 3) = W := hW
  rw [hW2] at hA U
  clear hW hW2
  obtain ⟨b, o, hb0, hb, hc⟩ := hA (by decide)
  injection hb0 with hb0
  injection hb0 with e1 e2
  have c0 : W.cell? ⟨z.heap.size, 0, none⟩ = some (.int .i64 773) := by rw [e1, e2]; exact hc 0 (by decide)
  have c1 : W.cell? ⟨z.heap.size, 1, none⟩ = some (.int .i64 832) := by have := hc 1 (by decide); rw [← e1, ← e2] at this; exact this
  have c2 : W.cell? ⟨z.heap.size, 2, none⟩ = some (.int .i64 833) := by have := hc 2 (by decide); rw [← e1, ← e2] at this; exact this
  have c3 : W.cell? ⟨z.heap.size, 3, none⟩ = some (.int .i64 834) := by have := hc 3 (by decide); rw [← e1, ← e2] at this; exact this
  have c4 : W.cell? ⟨z.heap.size, 4, none⟩ = some (.int .i64 835) := by have := hc 4 (by decide); rw [← e1, ← e2] at this; exact this
  clear hc hb hA e1 e2
  generalize z.heap.size = sb at *
  go_loopg [7] 5 (fun g v7 wl => ∃ k : Nat, v7 = .int .i64 (k : Int) ∧ k ≤ 5 ∧ g = 5 - k ∧ Hid (∀ j, j < k → c ≠ ((nth csrL j : Nat) : Int)) ∧ Hid (wl = W))
  case atStart => exact ⟨0, rfl, by omega, rfl, Lib.hid (fun j hj => by omega), Lib.hid rfl⟩
  case round =>
    obtain ⟨k, rfl, hk, hg, HN, HW⟩ := hrel
    obtain rfl : wr = W := HW.out
    rcases (by omega : k = 0 ∨ k = 1 ∨ k = 2 ∨ k = 3 ∨ k = 4 ∨ k = 5) with rfl | rfl | rfl | rfl | rfl | rfl
    · by_cases h : c = 773
      · have d : ((773 : Int) == c) = true := by rw [beq_iff_eq]; exact h.symm
        have HE := Lib.hid (show idxP c = 0 by rw [h]; rfl)
        clear h
        go_wp2_with (fail)
        go_ret
        exact ⟨by rw [HE.out]; rfl, U.out⟩
      · have d : ((773 : Int) == c) = false := by rw [beq_eq_false_iff_ne]; exact fun hh => h hh.symm
        have H2 : Hid (∀ j, j < 1 → c ≠ ((nth csrL j : Nat) : Int)) := Lib.hid (fun j hj => by
          rcases (by omega : j < 0 ∨ j = 0) with hj2 | rfl
          · exact HN.out j hj2
          · exact h)
        clear h
        go_wp2_with (fail)
        go_roundg (5 - 1)
        case measure => omega
        case rel => exact ⟨1, rfl, by omega, rfl, H2, Lib.hid rfl⟩
    · by_cases h : c = 832
      · have d : ((832 : Int) == c) = true := by rw [beq_iff_eq]; exact h.symm
        have HE := Lib.hid (show idxP c = 1 by rw [h]; rfl)
        clear h
        go_wp2_with (fail)
        go_ret
        exact ⟨by rw [HE.out]; rfl, U.out⟩
      · have d : ((832 : Int) == c) = false := by rw [beq_eq_false_iff_ne]; exact fun hh => h hh.symm
        have H2 : Hid (∀ j, j < 2 → c ≠ ((nth csrL j : Nat) : Int)) := Lib.hid (fun j hj => by
          rcases (by omega : j < 1 ∨ j = 1) with hj2 | rfl
          · exact HN.out j hj2
          · exact h)
        clear h
        go_wp2_with (fail)
        go_roundg (5 - 2)
        case measure => omega
        case rel => exact ⟨2, rfl, by omega, rfl, H2, Lib.hid rfl⟩
    · by_cases h : c = 833
      · have d : ((833 : Int) == c) = true := by rw [beq_iff_eq]; exact h.symm
        have HE := Lib.hid (show idxP c = 2 by rw [h]; rfl)
        clear h
        go_wp2_with (fail)
        go_ret
        exact ⟨by rw [HE.out]; rfl, U.out⟩
      · have d : ((833 : Int) == c) = false := by rw [beq_eq_false_iff_ne]; exact fun hh => h hh.symm
        have H2 : Hid (∀ j, j < 3 → c ≠ ((nth csrL j : Nat) : Int)) := Lib.hid (fun j hj => by
          rcases (by omega : j < 2 ∨ j = 2) with hj2 | rfl
          · exact HN.out j hj2
          · exact h)
        clear h
        go_wp2_with (fail)
        go_roundg (5 - 3)
        case measure => omega
        case rel => exact ⟨3, rfl, by omega, rfl, H2, Lib.hid rfl⟩
    · by_cases h : c = 834
      · have d : ((834 : Int) == c) = true := by rw [beq_iff_eq]; exact h.symm
        have HE := Lib.hid (show idxP c = 3 by rw [h]; rfl)
        clear h
        go_wp2_with (fail)
        go_ret
        exact ⟨by rw [HE.out]; rfl, U.out⟩
      · have d : ((834 : Int) == c) = false := by rw [beq_eq_false_iff_ne]; exact fun hh => h hh.symm
        have H2 : Hid (∀ j, j < 4 → c ≠ ((nth csrL j : Nat) : Int)) := Lib.hid (fun j hj => by
          rcases (by omega : j < 3 ∨ j = 3) with hj2 | rfl
          · exact HN.out j hj2
          · exact h)
        clear h
        go_wp2_with (fail)
        go_roundg (5 - 4)
        case measure => omega
        case rel => exact ⟨4, rfl, by omega, rfl, H2, Lib.hid rfl⟩
    · by_cases h : c = 835
      · have d : ((835 : Int) == c) = true := by rw [beq_iff_eq]; exact h.symm
        have HE := Lib.hid (show idxP c = 4 by rw [h]; rfl)
        clear h
        go_wp2_with (fail)
        go_ret
        exact ⟨by rw [HE.out]; rfl, U.out⟩
      · have d : ((835 : Int) == c) = false := by rw [beq_eq_false_iff_ne]; exact fun hh => h hh.symm
        have H2 : Hid (∀ j, j < 5 → c ≠ ((nth csrL j : Nat) : Int)) := Lib.hid (fun j hj => by
          rcases (by omega : j < 4 ∨ j = 4) with hj2 | rfl
          · exact HN.out j hj2
          · exact h)
        clear h
        go_wp2_with (fail)
        go_roundg (5 - 5)
        case measure => omega
        case rel => exact ⟨5, rfl, by omega, rfl, H2, Lib.hid rfl⟩
    · have HE := Lib.hid (show idxP c = -1 by
        have h0 : c ≠ 773 := HN.out 0 (by decide)
        have h1 : c ≠ 832 := HN.out 1 (by decide)
        have h2 : c ≠ 833 := HN.out 2 (by decide)
        have h3 : c ≠ 834 := HN.out 3 (by decide)
        have h4 : c ≠ 835 := HN.out 4 (by decide)
        unfold idxP
        rw [if_neg h0, if_neg h1, if_neg h2, if_neg h3, if_neg h4])
      go_wp2_with (fail)
      go_ret
      exact ⟨by rw [HE.out]; rfl, U.out⟩
end Go.Proofs.YtmdjhahafjlebaaGreatDoor
