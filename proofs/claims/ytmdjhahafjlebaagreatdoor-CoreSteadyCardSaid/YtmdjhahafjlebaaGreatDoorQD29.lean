/- A core in memory: Bits, Fixes, Flip, Reset. -/
import Derived.Test.YtmdjhahafjlebaaGreatDoorQD21
import Derived.Test.YtmdjhahafjlebaaGreatDoorQD28
namespace Go.Proofs.YtmdjhahafjlebaaGreatDoor
open Go.RowKit Go.Dio
set_option linter.unusedSimpArgs false
set_option linter.unusedVariables false

theorem CoreAt.n0 {k : CoB} {s : CoS} {w : World} (h : CoreAt k s w) (x : Near [] w) : x.1.cell? ⟨k.cb, 0, none⟩ = some (.pointer (some ⟨k.fb, 0, none⟩)) := (h.upd0 x.2).c0
theorem CoreAt.n1 {k : CoB} {s : CoS} {w : World} (h : CoreAt k s w) (x : Near [] w) : x.1.cell? ⟨k.cb, 1, none⟩ = some (.pointer (some ⟨k.rb, 0, none⟩)) := (h.upd0 x.2).c1
theorem CoreAt.n3 {k : CoB} {s : CoS} {w : World} (h : CoreAt k s w) (x : Near [] w) : x.1.cell? ⟨k.cb, 3, none⟩ = some (.pointer (some ⟨k.lb, 0, none⟩)) := (h.upd0 x.2).c3
theorem CoreAt.fbits {k : CoB} {s : CoS} {w : World} (h : CoreAt k s w) : Calls Tryz.prog 35 #[.pointer (some ⟨k.fb, 0, none⟩)] w fun e w' => e = .returned (.int .i64 1209) ∧ w' = w := by
  have := FBits_calls k.fb k.b k.d s.fl s.ff s.fa w h.file
  rw [h.ok.fl] at this
  exact this
theorem CoreAt.rbits {k : CoB} {s : CoS} {w : World} (h : CoreAt k s w) : Calls Tryz.prog 36 #[.pointer (some ⟨k.rb, 0, none⟩)] w fun e w' => e = .returned (.int .i64 234) ∧ w' = w := by
  have := Bits_calls _ k.rb k.rd s.cl s.cf w h.row
  rw [h.ok.cl] at this
  exact this
theorem CoreAt.lbits {k : CoB} {s : CoS} {w : World} (h : CoreAt k s w) : Calls Tryz.prog 37 #[.pointer (some ⟨k.lb, 0, none⟩)] w fun e w' => e = .returned (.int .i64 132) ∧ w' = w := by
  have := LBits_calls k.lb k.ld s.ll w h.lat
  rw [h.ok.ll] at this
  exact this
set_option maxHeartbeats 1000000 in
theorem CBits_calls (k : CoB) (s : CoS) (zz : World) (h : CoreAt k s zz) :
    Calls Tryz.prog 12 #[.pointer (some ⟨k.cb, 0, none⟩)] zz fun e z' => e = .returned (.int .i64 1575) ∧ Upd [] zz z' := by
  have n0 := h.n0
  have n1 := h.n1
  have n3 := h.n3
  have H := Lib.hid (fun x : Near [] zz => h.upd0 x.2)
  have D : Upd [] zz zz.drew := (Upd.refl _ _).drew
  clear h
  go_enter Tryz.func12, Tryz.ntmps12
  go_wp2_with (fail)
  refine wp_region_plan (fun z => ∃ x : Near [] zz, z = x.1) [([0, 1, 2, 3, 5, 6, 7, 8, 11, 12, 13, 14], 4), ([], 9), ([10], 15)] [16, 17] (by kernel_rfl) (by kernel_rfl) (by kernel_rfl) (by kernel_rfl) (fun _ d _ _ _ h => by cases d <;> exact h) ⟨⟨(zz).drew, (Upd.refl _ _).drew⟩, rfl⟩ ?_
  refine plan_next ?_
  simp only [opsAt, List.map_cons, List.map_nil, List.getElem?_toArray, List.getElem?_cons_zero, List.getElem?_cons_succ, Option.getD_some]
  repeat (go_big_quiet_step (fail))
  refine wpQuiet_nil ?_
  refine plan_one rfl ?_
  go_wp2_with fail
  refine (H.out ⟨_, D⟩).fbits.mono ?_
  rintro e w' ⟨rfl, rfl⟩
  go_wp2_with fail
  refine plan_same ⟨⟨_, D⟩, rfl⟩ ?_
  refine plan_next ?_
  simp only [opsAt, List.map_cons, List.map_nil, List.getElem?_toArray, List.getElem?_cons_zero, List.getElem?_cons_succ, Option.getD_some]
  repeat (go_big_quiet_step (fail))
  refine wpQuiet_nil ?_
  refine plan_one rfl ?_
  go_wp2_with fail
  refine (H.out ⟨_, D⟩).rbits.mono ?_
  rintro e w' ⟨rfl, rfl⟩
  go_wp2_with fail
  refine plan_same ⟨⟨_, D⟩, rfl⟩ ?_
  refine plan_next ?_
  simp only [opsAt, List.map_cons, List.map_nil, List.getElem?_toArray, List.getElem?_cons_zero, List.getElem?_cons_succ, Option.getD_some]
  repeat (go_big_quiet_step (fail))
  refine wpQuiet_nil ?_
  refine plan_one rfl ?_
  go_wp2_with fail
  refine (H.out ⟨_, D⟩).lbits.mono ?_
  rintro e w' ⟨rfl, rfl⟩
  go_wp2_with fail
  refine plan_same ⟨⟨_, D⟩, rfl⟩ ?_
  refine plan_last ?_
  simp only [opsAt, List.map_cons, List.map_nil, List.getElem?_toArray, List.getElem?_cons_zero, List.getElem?_cons_succ, Option.getD_some]
  repeat (go_big_quiet_step (fail))
  refine wpQuiet_nil ?_
  unfold planEnd
  go_wp2_with fail
  go_ret
  exact ⟨rfl, D⟩
set_option maxHeartbeats 1000000 in
theorem CFixes_calls (k : CoB) (s : CoS) (zz : World) (h : CoreAt k s zz) (hf : s.ff + s.cf < 9223372036854775806) :
    Calls Tryz.prog 23 #[.pointer (some ⟨k.cb, 0, none⟩)] zz fun e z' => e = .returned (.int .i64 ((s.ff + s.cf : Nat) : Int)) ∧ Upd [] zz z' := by
  have n0 := h.n0
  have n1 := h.n1
  have H := Lib.hid (fun x : Near [] zz => h.upd0 x.2)
  have F1 := Lib.hid (fun w (h : CoreAt k s w) => FFixes_calls k.fb k.b k.d s.fl s.ff s.fa w h.file)
  have F2 := Lib.hid (fun w (h : CoreAt k s w) => Fixes_calls _ k.rb k.rd s.cl s.cf w h.row)
  have D : Upd [] zz zz.drew := (Upd.refl _ _).drew
  have hs : ((s.ff : Int) + (s.cf : Int)) = ((s.ff + s.cf : Nat) : Int) := by simp
  have hw := wrapi64 (n := ((s.ff + s.cf : Nat) : Int)) (by omega) (by omega)
  clear h
  generalize s.ff + s.cf = q at *
  go_enter Tryz.func23, Tryz.ntmps23
  go_wp2_with (fail)
  refine wp_region_plan (fun z => ∃ x : Near [] zz, z = x.1) [([0, 1, 2, 3, 5, 6, 7, 8], 4), ([], 9)] [10, 11] (by kernel_rfl) (by kernel_rfl) (by kernel_rfl) (by kernel_rfl) (fun _ d _ _ _ h => by cases d <;> exact h) ⟨⟨(zz).drew, (Upd.refl _ _).drew⟩, rfl⟩ ?_
  refine plan_next ?_
  simp only [opsAt, List.map_cons, List.map_nil, List.getElem?_toArray, List.getElem?_cons_zero, List.getElem?_cons_succ, Option.getD_some]
  repeat (go_big_quiet_step (fail))
  refine wpQuiet_nil ?_
  refine plan_one rfl ?_
  go_wp2_with fail
  refine (F1.out _ (H.out ⟨_, D⟩)).mono ?_
  rintro e w' ⟨rfl, rfl⟩
  go_wp2_with fail
  refine plan_same ⟨⟨_, D⟩, rfl⟩ ?_
  refine plan_next ?_
  simp only [opsAt, List.map_cons, List.map_nil, List.getElem?_toArray, List.getElem?_cons_zero, List.getElem?_cons_succ, Option.getD_some]
  repeat (go_big_quiet_step (fail))
  refine wpQuiet_nil ?_
  refine plan_one rfl ?_
  go_wp2_with fail
  refine (F2.out _ (H.out ⟨_, D⟩)).mono ?_
  rintro e w' ⟨rfl, rfl⟩
  go_wp2_with fail
  refine plan_same ⟨⟨_, D⟩, rfl⟩ ?_
  refine plan_last ?_
  simp only [opsAt, List.map_cons, List.map_nil, List.getElem?_toArray, List.getElem?_cons_zero, List.getElem?_cons_succ, Option.getD_some]
  repeat (go_big_quiet_step (fail))
  refine wpQuiet_nil ?_
  unfold planEnd
  go_wp2_with fail
  go_ret
  exact ⟨rfl, D⟩
/-- A bit of a core. -/
def CoS.flipOk (c : Int) : Bool := decide (0 ≤ c ∧ c < 1575)
def CoS.flip (s : CoS) (c : Int) : CoS := if c < 0 then s else if c < 1209 then { s with fl := flipL s.fl c } else if c < 1443 then { s with cl := flipL s.cl (c - 1209) } else { s with ll := flatL s.ll (c - 1443) }
set_option maxHeartbeats 2000000 in
theorem CFlip_calls (k : CoB) (s : CoS) (c : Int) (zz : World) (h : CoreAt k s zz) (hc : c ≤ 9223372036854775807) (hc0 : -9223372036854775808 ≤ c) :
    Calls Tryz.prog 18 #[.pointer (some ⟨k.cb, 0, none⟩), .int .i64 c] zz fun e z' => e = .returned (.bool (CoS.flipOk c)) ∧ CoR k (s.flip c) zz z' := by
  have n0 := h.n0
  have n1 := h.n1
  have H := Lib.hid (fun x : Near [] zz => h.upd0 x.2)
  have ok := Lib.hid h.ok
  have D : Upd [] zz zz.drew := (Upd.refl _ _).drew
  clear h
  by_cases h0 : c < 0
  · have d0 : decide (c < 0) = true := decide_eq_true h0
    have HB : Hid (CoS.flipOk c = false) := Lib.hid (by unfold CoS.flipOk; exact decide_eq_false (by omega))
    have HS : Hid (s.flip c = s) := Lib.hid (by unfold CoS.flip; rw [if_pos h0])
    rw [HB.out, HS.out]
    go_enter Tryz.func18, Tryz.ntmps18
    go_wp2_with (fail)
    refine wp_region_plan (fun z => ∃ x : Near [] zz, z = x.1) [([0, 1, 2, 3, 5, 6, 7, 8], 4), ([], 9)] [10, 11] (by kernel_rfl) (by kernel_rfl) (by kernel_rfl) (by kernel_rfl) (fun _ d _ _ _ h => by cases d <;> exact h) ⟨⟨(zz).drew, (Upd.refl _ _).drew⟩, rfl⟩ ?_
    refine plan_next ?_
    simp only [opsAt, List.map_cons, List.map_nil, List.getElem?_toArray, List.getElem?_cons_zero, List.getElem?_cons_succ, Option.getD_some]
    repeat (go_big_quiet_step (fail))
    refine wpQuiet_nil ?_
    refine plan_one rfl ?_
    go_wp2_with fail
    refine (H.out ⟨_, D⟩).fbits.mono ?_
    rintro e w' ⟨rfl, rfl⟩
    go_wp2_with fail
    refine plan_same ⟨⟨_, D⟩, rfl⟩ ?_
    refine plan_next ?_
    simp only [opsAt, List.map_cons, List.map_nil, List.getElem?_toArray, List.getElem?_cons_zero, List.getElem?_cons_succ, Option.getD_some]
    repeat (go_big_quiet_step (fail))
    refine wpQuiet_nil ?_
    refine plan_one rfl ?_
    go_wp2_with fail
    refine (H.out ⟨_, D⟩).rbits.mono ?_
    rintro e w' ⟨rfl, rfl⟩
    go_wp2_with fail
    refine plan_same ⟨⟨_, D⟩, rfl⟩ ?_
    refine plan_last ?_
    simp only [opsAt, List.map_cons, List.map_nil, List.getElem?_toArray, List.getElem?_cons_zero, List.getElem?_cons_succ, Option.getD_some]
    repeat (go_big_quiet_step (fail))
    refine wpQuiet_nil ?_
    unfold planEnd
    go_wp2_with fail
    go_ret
    exact ⟨rfl, H.out ⟨_, D⟩, D.mono (by simp)⟩
  · have d0 : decide (c < 0) = false := decide_eq_false h0
    by_cases h1 : c < 1209
    · have d1 : decide (c < 1209) = true := decide_eq_true h1
      have HB : Hid (CoS.flipOk c = true) := Lib.hid (by unfold CoS.flipOk; exact decide_eq_true (by omega))
      have HS : Hid (s.flip c = { s with fl := flipL s.fl c }) := Lib.hid (by unfold CoS.flip; rw [if_neg h0, if_pos h1])
      have C := Lib.hid (fun w (h : CoreAt k s w) => FFlip_calls k.fb k.b k.d s.fl s.ff s.fa c w h.file)
      have hb : flipB s.fl c = true := decide_eq_true (by rw [ok.out.fl]; omega)
      rw [hb] at C
      rw [HB.out, HS.out]
      clear hb
      have H1 := Lib.hid (H.out ⟨_, D⟩)
      have e0 := H1.out.c0
      go_enter Tryz.func18, Tryz.ntmps18
      go_wp2_with (fail)
      refine wp_region_plan (fun z => ∃ x : Near [] zz, z = x.1) [([0, 1, 2, 3, 5, 6, 7, 8], 4), ([], 9)] [10, 11] (by kernel_rfl) (by kernel_rfl) (by kernel_rfl) (by kernel_rfl) (fun _ d _ _ _ h => by cases d <;> exact h) ⟨⟨(zz).drew, (Upd.refl _ _).drew⟩, rfl⟩ ?_
      refine plan_next ?_
      simp only [opsAt, List.map_cons, List.map_nil, List.getElem?_toArray, List.getElem?_cons_zero, List.getElem?_cons_succ, Option.getD_some]
      repeat (go_big_quiet_step (fail))
      refine wpQuiet_nil ?_
      refine plan_one rfl ?_
      go_wp2_with fail
      refine (H.out ⟨_, D⟩).fbits.mono ?_
      rintro e w' ⟨rfl, rfl⟩
      go_wp2_with fail
      refine plan_same ⟨⟨_, D⟩, rfl⟩ ?_
      refine plan_next ?_
      simp only [opsAt, List.map_cons, List.map_nil, List.getElem?_toArray, List.getElem?_cons_zero, List.getElem?_cons_succ, Option.getD_some]
      repeat (go_big_quiet_step (fail))
      refine wpQuiet_nil ?_
      refine plan_one rfl ?_
      go_wp2_with fail
      refine (H.out ⟨_, D⟩).rbits.mono ?_
      rintro e w' ⟨rfl, rfl⟩
      go_wp2_with fail
      refine plan_same ⟨⟨_, D⟩, rfl⟩ ?_
      refine plan_last ?_
      simp only [opsAt, List.map_cons, List.map_nil, List.getElem?_toArray, List.getElem?_cons_zero, List.getElem?_cons_succ, Option.getD_some]
      repeat (go_big_quiet_step (fail))
      refine wpQuiet_nil ?_
      unfold planEnd
      go_wp2_with fail
      refine (C.out _ H1.out).mono ?_
      rintro e w2 ⟨rfl, r, u⟩
      go_wp2_with fail
      go_ret
      exact ⟨rfl, H1.out.mkFile r u (by simp) (by rw [flipL_len]; exact ok.out.fl) ok.out.fa, (D.mono (by simp)).trans (u.mono (fun x hx _ => by simp at hx; simp [CoB.fp, hx]))⟩
    · have d1 : decide (c < 1209) = false := decide_eq_false h1
      by_cases h2 : c < 1443
      · have d2 : decide (c < 1443) = true := decide_eq_true h2
        have HB : Hid (CoS.flipOk c = true) := Lib.hid (by unfold CoS.flipOk; exact decide_eq_true (by omega))
        have HS : Hid (s.flip c = { s with cl := flipL s.cl (c - 1209) }) := Lib.hid (by unfold CoS.flip; rw [if_neg h0, if_neg h1, if_pos h2])
        have C := Lib.hid (fun w (h : CoreAt k s w) => Flip_calls _ k.rb k.rd s.cl s.cf (c - 1209) w h.row)
        have hb : flipB s.cl (c - 1209) = true := decide_eq_true (by rw [ok.out.cl]; omega)
        have hw := wrapi64 (n := c - 1209) (by omega) (by omega)
        rw [hb] at C
        rw [HB.out, HS.out]
        clear hb
        have H1 := Lib.hid (H.out ⟨_, D⟩)
        have e1 := H1.out.c1
        go_enter Tryz.func18, Tryz.ntmps18
        go_wp2_with (fail)
        refine wp_region_plan (fun z => ∃ x : Near [] zz, z = x.1) [([0, 1, 2, 3, 5, 6, 7, 8], 4), ([], 9)] [10, 11] (by kernel_rfl) (by kernel_rfl) (by kernel_rfl) (by kernel_rfl) (fun _ d _ _ _ h => by cases d <;> exact h) ⟨⟨(zz).drew, (Upd.refl _ _).drew⟩, rfl⟩ ?_
        refine plan_next ?_
        simp only [opsAt, List.map_cons, List.map_nil, List.getElem?_toArray, List.getElem?_cons_zero, List.getElem?_cons_succ, Option.getD_some]
        repeat (go_big_quiet_step (fail))
        refine wpQuiet_nil ?_
        refine plan_one rfl ?_
        go_wp2_with fail
        refine (H.out ⟨_, D⟩).fbits.mono ?_
        rintro e w' ⟨rfl, rfl⟩
        go_wp2_with fail
        refine plan_same ⟨⟨_, D⟩, rfl⟩ ?_
        refine plan_next ?_
        simp only [opsAt, List.map_cons, List.map_nil, List.getElem?_toArray, List.getElem?_cons_zero, List.getElem?_cons_succ, Option.getD_some]
        repeat (go_big_quiet_step (fail))
        refine wpQuiet_nil ?_
        refine plan_one rfl ?_
        go_wp2_with fail
        refine (H.out ⟨_, D⟩).rbits.mono ?_
        rintro e w' ⟨rfl, rfl⟩
        go_wp2_with fail
        refine plan_same ⟨⟨_, D⟩, rfl⟩ ?_
        refine plan_last ?_
        simp only [opsAt, List.map_cons, List.map_nil, List.getElem?_toArray, List.getElem?_cons_zero, List.getElem?_cons_succ, Option.getD_some]
        repeat (go_big_quiet_step (fail))
        refine wpQuiet_nil ?_
        unfold planEnd
        go_wp2_with fail
        refine (C.out _ H1.out).mono ?_
        rintro e w2 ⟨rfl, r, u⟩
        go_wp2_with fail
        go_ret
        exact ⟨rfl, H1.out.mkRow r u (by simp) (by rw [flipL_len]; exact ok.out.cl), (D.mono (by simp)).trans (u.mono (fun x hx _ => by simp at hx; simp [CoB.fp, hx]))⟩
      · have d2 : decide (c < 1443) = false := decide_eq_false h2
        have HB : Hid (CoS.flipOk c = flatB s.ll (c - 1443)) := Lib.hid (by unfold CoS.flipOk flatB; rw [ok.out.ll, decide_eq_decide]; omega)
        have HS : Hid (s.flip c = { s with ll := flatL s.ll (c - 1443) }) := Lib.hid (by unfold CoS.flip; rw [if_neg h0, if_neg h1, if_neg h2])
        have C := Lib.hid (fun w (h : CoreAt k s w) => LFlip_calls k.lb k.ld s.ll (c - 1443) w h.lat)
        have hw := wrapi64 (n := c - 1209) (by omega) (by omega)
        have hw2 := wrapi64 (n := c - 1443) (by omega) (by omega)
        have hq : c - 1209 - 234 = c - 1443 := by omega
        rw [HB.out, HS.out]
        generalize flatB s.ll (c - 1443) = B at *
        have H1 := Lib.hid (H.out ⟨_, D⟩)
        have e3 := H1.out.c3
        go_enter Tryz.func18, Tryz.ntmps18
        go_wp2_with (fail)
        refine wp_region_plan (fun z => ∃ x : Near [] zz, z = x.1) [([0, 1, 2, 3, 5, 6, 7, 8], 4), ([], 9)] [10, 11] (by kernel_rfl) (by kernel_rfl) (by kernel_rfl) (by kernel_rfl) (fun _ d _ _ _ h => by cases d <;> exact h) ⟨⟨(zz).drew, (Upd.refl _ _).drew⟩, rfl⟩ ?_
        refine plan_next ?_
        simp only [opsAt, List.map_cons, List.map_nil, List.getElem?_toArray, List.getElem?_cons_zero, List.getElem?_cons_succ, Option.getD_some]
        repeat (go_big_quiet_step (fail))
        refine wpQuiet_nil ?_
        refine plan_one rfl ?_
        go_wp2_with fail
        refine (H.out ⟨_, D⟩).fbits.mono ?_
        rintro e w' ⟨rfl, rfl⟩
        go_wp2_with fail
        refine plan_same ⟨⟨_, D⟩, rfl⟩ ?_
        refine plan_next ?_
        simp only [opsAt, List.map_cons, List.map_nil, List.getElem?_toArray, List.getElem?_cons_zero, List.getElem?_cons_succ, Option.getD_some]
        repeat (go_big_quiet_step (fail))
        refine wpQuiet_nil ?_
        refine plan_one rfl ?_
        go_wp2_with fail
        refine (H.out ⟨_, D⟩).rbits.mono ?_
        rintro e w' ⟨rfl, rfl⟩
        go_wp2_with fail
        refine plan_same ⟨⟨_, D⟩, rfl⟩ ?_
        refine plan_last ?_
        simp only [opsAt, List.map_cons, List.map_nil, List.getElem?_toArray, List.getElem?_cons_zero, List.getElem?_cons_succ, Option.getD_some]
        repeat (go_big_quiet_step (fail))
        refine wpQuiet_nil ?_
        unfold planEnd
        go_wp2_with fail
        refine (C.out _ H1.out).mono ?_
        rintro e w2 ⟨rfl, r, u⟩
        go_wp2_with fail
        go_ret
        exact ⟨rfl, H1.out.mkLat r u (by simp) (by rw [flatL_len]; exact ok.out.ll), (D.mono (by simp)).trans (u.mono (fun x hx _ => by simp at hx; simp [CoB.fp, hx]))⟩
end Go.Proofs.YtmdjhahafjlebaaGreatDoor

namespace Go.Proofs.YtmdjhahafjlebaaGreatDoor
open Go.RowKit Go.Dio
set_option linter.unusedSimpArgs false
set_option linter.unusedVariables false

theorem CoreAt.nf {k : CoB} {s : CoS} {w : World} (h : CoreAt k s w) (x : Near [k.d] w) : x.1.cell? ⟨k.cb, 0, none⟩ = some (.pointer (some ⟨k.fb, 0, none⟩)) := by
  rw [cells_of (x.2.keep h.cell (CoB.out h.nd (I := [3]) (fun y hy => ⟨3, by decide, by rw [List.mem_singleton.1 hy]; rfl⟩) 0 rfl (by decide)))]; rfl
theorem CoreAt.nr {k : CoB} {s : CoS} {w : World} (h : CoreAt k s w) (x : Near [k.rd] w) : x.1.cell? ⟨k.cb, 1, none⟩ = some (.pointer (some ⟨k.rb, 0, none⟩)) := by
  rw [cells_of (x.2.keep h.cell (CoB.out h.nd (I := [5]) (fun y hy => ⟨5, by decide, by rw [List.mem_singleton.1 hy]; rfl⟩) 0 rfl (by decide)))]; rfl
theorem CoreAt.nl {k : CoB} {s : CoS} {w : World} (h : CoreAt k s w) (x : Near [k.ld] w) : x.1.cell? ⟨k.cb, 3, none⟩ = some (.pointer (some ⟨k.lb, 0, none⟩)) := by
  rw [cells_of (x.2.keep h.cell (CoB.out h.nd (I := [7]) (fun y hy => ⟨7, by decide, by rw [List.mem_singleton.1 hy]; rfl⟩) 0 rfl (by decide)))]; rfl
theorem made_r {w : World} {b : Nat} {t : TypeId} {m : MadeV} (h : w.heap[b]? = some (.cells m.cells.toArray t (0, 0))) : w.rangeAt b 0 m.r.cells.toArray.toList := fun j v hv => by
  rw [cells_of h]
  match j, hv with
  | 0, hv => exact hv
  | 1, hv => exact hv
  | 2, hv => exact hv
  | 3, hv => exact hv
  | 4, hv => exact hv
  | 5, hv => exact hv
  | 6, hv => exact hv
  | n + 7, hv => simp [RetV.cells] at hv
theorem made_c {w : World} {b : Nat} {t : TypeId} {m : MadeV} (h : w.heap[b]? = some (.cells m.cells.toArray t (0, 0))) (h5 : m.csrs.length = 5) : w.rangeAt b 8 (nums .u32 m.csrs).toList := fun j v hv => by
  rw [cells_of h]
  obtain ⟨c0, c1, c2, c3, c4, e⟩ := csr5 h5
  obtain ⟨r, nx, cs⟩ := m
  dsimp only at e
  subst e
  match j, hv with
  | 0, hv => exact hv
  | 1, hv => exact hv
  | 2, hv => exact hv
  | 3, hv => exact hv
  | 4, hv => exact hv
  | n + 5, hv => simp [nums] at hv
set_option maxRecDepth 20000 in
set_option maxHeartbeats 4000000 in
theorem end_calls (k : CoB) (s : CoS) (m : MadeV) (zz : World) (h : CoreAt k s zz) (hv : 0 ≤ m.r.val ∧ m.r.val < 4294967296) (hr : 0 ≤ m.r.rd ∧ m.r.rd < 32) (hn : m.next < 2 ^ 32) (h5 : m.csrs.length = 5) (hc : ∀ x ∈ m.csrs, x < 2 ^ 32) :
    Calls Tryz.prog 72 #[.pointer (some ⟨k.cb, 0, none⟩), .agg m.cells.toArray] zz fun e z' => e = .returned (.tuple #[.agg m.r.cells.toArray, .int .i64 1]) ∧ CoR k (s.fin m) zz z' := by
  have H := Lib.hid h
  have ok := Lib.hid h.ok
  have HZ := Lib.hid h.lt
  have HT := Lib.hid h.tz.lt
  obtain ⟨v, hv'⟩ : ∃ v : Nat, m.r.val = (v : Int) := ⟨m.r.val.toNat, by omega⟩
  obtain ⟨q, hq⟩ : ∃ q : Nat, m.r.rd = (q : Int) := ⟨m.r.rd.toNat, by omega⟩
  have hq32 : q < 32 := by omega
  have hvl : v < 2 ^ 32 := by omega
  obtain ⟨C, hC⟩ : ∃ C, C = m.csrs := ⟨_, rfl⟩
  obtain ⟨p, hp⟩ : ∃ p, p = m.next := ⟨_, rfl⟩
  obtain ⟨RR, hRR⟩ : ∃ RR, RR = m.r.cells := ⟨_, rfl⟩
  have R7 : Hid (RR.toArray.size = 7 ∧ (RR.toArray.all fun x => x.oneCell') = true) := Lib.hid (by rw [hRR]; exact ⟨rfl, RetV.one _⟩)
  have HF : Hid (s.fin m = { s with fl := wrL s.fl (q : Int) v, cl := (p :: C).map enc, ll := [0, 0, 0, 0] }) := Lib.hid (by unfold CoS.fin; rw [hv', hq, hC, hp]; rfl)
  have MR := Lib.hid (fun (w : World) (h : w.heap[zz.heap.size]? = some (.cells m.cells.toArray 120 (0, 0))) => made_r h)
  rw [← hRR] at MR ⊢
  have MC := Lib.hid (fun (w : World) (h : w.heap[zz.heap.size]? = some (.cells m.cells.toArray 120 (0, 0))) => made_c h h5)
  have M1 : Hid (m.cells.toArray[1]? = some (.int .u32 (v : Int))) := Lib.hid (by rw [← hv']; rfl)
  have M2 : Hid (m.cells.toArray[2]? = some (.int .i64 (q : Int))) := Lib.hid (by rw [← hq]; rfl)
  have M7 : Hid (m.cells.toArray[7]? = some (.int .u32 (p : Int))) := Lib.hid (by rw [hp]; rfl)
  rw [← hC] at MC hc h5
  rw [← hp] at hn
  have HLC := Lib.hid h5
  have W1 := Lib.hid (fun w (h : CoreAt k s w) => FWrite_calls k.fb k.b k.d s.fl s.ff s.fa (q : Int) v w h.file (by omega) (by omega) hvl)
  have hwl : (wrL s.fl (q : Int) v).length = 31 := by
    rw [wrL_nat s.fl q v ok.out.fl hq32]; split <;> simp [ok.out.fl]
  have PU := Lib.hid (fun (i v : Nat) (l : List Nat) w (hv : v < 2 ^ 32) (h : RowAt 108 k.rb k.rd l s.cf w) => Put_calls _ k.rb k.rd l s.cf (i : Int) v w h hv)
  have hiy : ∀ (i : Nat) (w : World), i < 5 → (Instr.index 42 (.agg (nums .u32 C)) (.int .i64 (i : Int))).run Tryz.prog w = .ok (.int .u32 ((nth C i : Nat) : Int)) w := fun i w hi => run_index_nums 42 36 5 .u32 C i Tryz.underlying42 (fun _ => by kernel_rfl) (fun _ => by kernel_rfl) h5 hi w
  have CL : Hid (∀ j, nth C j < 2 ^ 32) := Lib.hid (fun j => nth_lt hc (by decide) j)
  generalize m.cells.toArray = MA at *
  generalize s.fin m = SF at *
  clear h hv hr hc hv' hq hC hp hRR h5
  generalize hWL : wrL s.fl (q : Int) v = WL at *
  generalize wrB s.fl (q : Int) = wb at *
  go_enter Tryz.func72, Tryz.ntmps72
  go_upto_region 1 with (fail)
  generalize hW : World.alloc (World.alloc zz _) _ = z0
  have B0 : Hid (z0.heap[zz.heap.size]? = some (.cells MA 120 (0, 0))) := Lib.hid (by rw [← hW]; exact heap_old (Go.heap_alloc_last zz _) _)
  have R0 : Hid (z0.heap[zz.heap.size + 1]? = some (.cells zR.cells.toArray 38 (0, 0))) := Lib.hid (by rw [← hW]; exact heap2 zz _ _)
  have U0 : Hid (Upd [] zz z0) := Lib.hid (by rw [← hW]; exact ((Upd.refl _ _).alloc _).alloc _)
  clear hW
  have H0 := Lib.hid (H.out.upd0 U0.out)
  have kd : zz.heap.size ∉ [k.d] := fun hm => by have := HZ.out k.d (by simp [CoB.fp]); simp at hm; omega
  have kd2 : zz.heap.size + 1 ∉ [k.d] := fun hm => by have := HZ.out k.d (by simp [CoB.fp]); simp at hm; omega
  have kr : zz.heap.size ∉ [k.rd] := fun hm => by have := HZ.out k.rd (by simp [CoB.fp]); simp at hm; omega
  have kr2 : zz.heap.size + 1 ∉ [k.rd] := fun hm => by have := HZ.out k.rd (by simp [CoB.fp]); simp at hm; omega
  have KD := Lib.hid (And.intro (And.intro kd kd2) (And.intro kr kr2))
  clear kd kd2 kr kr2
  have n0 := H0.out.nf
  have n1 : ∀ x : Near [k.d] z0, x.1.cell? ⟨zz.heap.size, 1, none⟩ = some (.int .u32 (v : Int)) := fun x => by rw [cells_of (x.2.keep B0.out KD.out.1.1)]; exact M1.out
  have n2 : ∀ x : Near [k.d] z0, x.1.cell? ⟨zz.heap.size, 2, none⟩ = some (.int .i64 (q : Int)) := fun x => by rw [cells_of (x.2.keep B0.out KD.out.1.1)]; exact M2.out
  refine wp_region_plan (fun z => ∃ x : Near [k.d] z0, z = x.1) [([0, 1, 2, 3, 4, 5, 6, 7, 8, 9], 10)] [] (by kernel_rfl) (by kernel_rfl) (by kernel_rfl) (by kernel_rfl) (fun _ d _ _ _ h => by cases d <;> exact h) ⟨⟨(z0).drew, (Upd.refl _ _).drew⟩, rfl⟩ ?_
  refine plan_next ?_
  simp only [opsAt, List.map_cons, List.map_nil, List.getElem?_toArray, List.getElem?_cons_zero, List.getElem?_cons_succ, Option.getD_some]
  repeat (go_big_quiet_step (fail))
  refine wpQuiet_nil ?_
  refine plan_one rfl ?_
  go_wp2_with fail
  refine (W1.out _ (H0.out.upd0 (Upd.refl _ _).drew)).mono ?_
  rintro e w1 ⟨rfl, r, u⟩
  have UU := ((Upd.refl [k.d] z0).drew).trans u
  have H1 := Lib.hid ((H0.out.upd0 (Upd.refl _ _).drew).mkFile r u (by simp) hwl ok.out.fa)
  have B1 := Lib.hid (UU.keep B0.out KD.out.1.1)
  have R1 := Lib.hid (UU.keep R0.out KD.out.1.2)
  have U1 : Hid (Upd k.fp zz w1) := Lib.hid ((U0.out.mono (by simp)).trans (UU.mono (fun x hx _ => by simp at hx; simp [CoB.fp, hx])))
  clear r u n0 n1 n2
  go_wp2_with fail
  refine plan_same ⟨⟨_, UU⟩, rfl⟩ ?_
  refine plan_last ?_
  simp only [opsAt, List.map_cons, List.map_nil, List.getElem?_toArray, List.getElem?_cons_zero, List.getElem?_cons_succ, Option.getD_some]
  repeat (go_big_quiet_step (fail))
  refine wpQuiet_nil ?_
  unfold planEnd
  go_wp2_with fail
  have n1 := H1.out.nr
  have n7 : ∀ x : Near [k.rd] w1, x.1.cell? ⟨zz.heap.size, 7, none⟩ = some (.int .u32 (p : Int)) := fun x => by rw [cells_of (x.2.keep B1.out KD.out.2.1)]; exact M7.out
  refine wp_region_plan (fun z => ∃ x : Near [k.rd] w1, z = x.1) [([0, 1, 2, 3, 4, 5], 6)] [] (by kernel_rfl) (by kernel_rfl) (by kernel_rfl) (by kernel_rfl) (fun _ d _ _ _ h => by cases d <;> exact h) ⟨⟨(w1).drew, (Upd.refl _ _).drew⟩, rfl⟩ ?_
  refine plan_next ?_
  simp only [opsAt, List.map_cons, List.map_nil, List.getElem?_toArray, List.getElem?_cons_zero, List.getElem?_cons_succ, Option.getD_some]
  repeat (go_big_quiet_step (fail))
  refine wpQuiet_nil ?_
  refine plan_one rfl ?_
  go_wp2_with fail
  refine (PU.out 0 p s.cl _ hn (H1.out.upd0 (Upd.refl _ _).drew).row).mono ?_
  rintro e w2 ⟨rfl, r, u⟩
  rw [putL_nat s.cl 0 p (by rw [ok.out.cl]; decide)] at r
  have UU2 := ((Upd.refl [k.rd] w1).drew).trans u
  have Q0 : Hid (∃ m2 : List Nat, CoreAt k { s with fl := WL, cl := m2 } w2 ∧ m2.length = 6 ∧ nth m2 0 = enc p ∧ ∀ j, j < 0 → nth m2 (j + 1) = enc (nth C j)) := Lib.hid ⟨_, (H1.out.upd0 (Upd.refl _ _).drew).mkRow r u (by simp) (by simpa using ok.out.cl), by simpa using ok.out.cl, nth_set_eq (by rw [ok.out.cl]; decide), fun j hj => by omega⟩
  have B2 := Lib.hid (UU2.keep B1.out KD.out.2.1)
  have R2 := Lib.hid (UU2.keep R1.out KD.out.2.2)
  have U2 : Hid (Upd k.fp zz w2) := Lib.hid (U1.out.trans (UU2.mono (fun x hx _ => by simp at hx; simp [CoB.fp, hx])))
  have V2 : Hid (Upd k.fp zz w2 ∧ w2.heap[zz.heap.size]? = some (.cells MA 120 (0, 0)) ∧ w2.heap[zz.heap.size + 1]? = some (.cells zR.cells.toArray 38 (0, 0))) := Lib.hid ⟨U2.out, B2.out, R2.out⟩
  clear r u n1 n7 H1 B1 R1 U1 H0 B0 R0 U0 W1
  go_wp2_with fail
  refine plan_same ⟨⟨_, UU2⟩, rfl⟩ ?_
  refine plan_last ?_
  simp only [opsAt, List.map_cons, List.map_nil, List.getElem?_toArray, List.getElem?_cons_zero, List.getElem?_cons_succ, Option.getD_some]
  repeat (go_big_quiet_step (fail))
  refine wpQuiet_nil ?_
  unfold planEnd
  go_wp2_with (first
    | go_skip
    | ((with_reducible refine at_op 27 ?_); refine L_load 42 (.tmp 26) rfl (by kernel_rfl) _ _ rfl (nums .u32 C) (MC.out _ B2.out) Tryz.underlying42 rfl 5 info_rc5 (by rw [nums_size]; exact HLC.out) ?_))
  clear B2 R2 U2 UU UU2
  go_loopw [28] (fun v28 wl => ∃ i : Nat, v28 = .int .i64 (i : Int) ∧ i ≤ 5 ∧ Hid (∃ m2 : List Nat, CoreAt k { s with fl := WL, cl := m2 } wl ∧ m2.length = 6 ∧ nth m2 0 = enc p ∧ ∀ j, j < i → nth m2 (j + 1) = enc (nth C j)) ∧ Hid (Upd k.fp zz wl ∧ wl.heap[zz.heap.size]? = some (.cells MA 120 (0, 0)) ∧ wl.heap[zz.heap.size + 1]? = some (.cells zR.cells.toArray 38 (0, 0)))) (fun v28 _ => 5 - (intOf v28).toNat)
  case atStart => exact ⟨0, rfl, by omega, Q0, V2⟩
  case round =>
    obtain ⟨i, rfl, hi2, HX, HV⟩ := hrel
    obtain ⟨m2, hm, hml2, hm0, hmj⟩ := HX.out
    have M := Lib.hid hm
    have MJ := Lib.hid hmj
    have M0 := Lib.hid hm0
    clear HX hm hmj hm0 Q0 V2
    rcases Nat.lt_or_ge i 5 with hlt | hge
    · have dl : decide ((i : Int) < 5) = true := decide_eq_true (by omega)
      have c1 := M.out.c1
      have W1 := Lib.hid (PU.out (i + 1) (nth C i) m2 wr (CL.out i) M.out.row)
      have hs : (1 : Int) + (i : Int) = ((i + 1 : Nat) : Int) := by omega
      have HL : Hid (putL m2 ((i + 1 : Nat) : Int) (nth C i) = m2.set (i + 1) (enc (nth C i))) := Lib.hid (putL_nat m2 (i + 1) _ (by omega))
      generalize inn m2 ((i + 1 : Nat) : Int) = bb at *
      obtain ⟨i1, hi1⟩ : ∃ i1, i1 = i + 1 := ⟨_, rfl⟩
      rw [← hi1] at W1 HL hs
      have HI1 := Lib.hid hi1
      clear hi1
      go_wp2_with (fail)
      refine W1.out.mono ?_
      rintro e w2 ⟨rfl, r, u⟩
      rw [HL.out, HI1.out] at r
      have Q : Hid (∃ m2 : List Nat, CoreAt k { s with fl := WL, cl := m2 } w2 ∧ m2.length = 6 ∧ nth m2 0 = enc p ∧ ∀ j, j < i + 1 → nth m2 (j + 1) = enc (nth C j)) := Lib.hid ⟨_, M.out.mkRow r u (by simp) (by simpa using hml2), by simpa using hml2, by rw [nth_set_ne (by omega)]; exact M0.out, fun j hj => by
        by_cases e : i = j
        · subst e; rw [nth_set_eq (by omega)]
        · rw [nth_set_ne (by omega)]; exact MJ.out j (by omega)⟩
      have V : Hid (Upd k.fp zz w2 ∧ w2.heap[zz.heap.size]? = some (.cells MA 120 (0, 0)) ∧ w2.heap[zz.heap.size + 1]? = some (.cells zR.cells.toArray 38 (0, 0))) := Lib.hid ⟨HV.out.1.trans (u.mono (fun x hx _ => by simp at hx; simp [CoB.fp, hx])), u.keep HV.out.2.1 KD.out.2.1, u.keep HV.out.2.2 KD.out.2.2⟩
      clear r u
      go_wp2_with (fail)
      go_roundw
      case measure => simp [intOf]; omega
      case rel => exact ⟨i + 1, by go_num, by omega, Q, V⟩
    · obtain rfl : i = 5 := by omega
      have e2 : m2 = (p :: C).map enc := enc_six hml2 HLC.out M0.out MJ.out
      subst e2
      have c3 := M.out.c3
      have W1 := Lib.hid (LClear_calls k.lb k.ld s.ll wr M.out.lat (by rw [ok.out.ll]; decide))
      have HL : Hid (List.replicate s.ll.length 0 = [0, 0, 0, 0]) := Lib.hid (by rw [ok.out.ll]; rfl)
      clear hiy
      go_wp2_with (fail)
      refine W1.out.mono ?_
      rintro e w3 ⟨rfl, r, u⟩
      rw [HL.out] at r
      have kl : zz.heap.size ∉ [k.ld] := fun hm => by have := HZ.out k.ld (by simp [CoB.fp]); simp at hm; omega
      have kl2 : zz.heap.size + 1 ∉ [k.ld] := fun hm => by have := HZ.out k.ld (by simp [CoB.fp]); simp at hm; omega
      have H3 := Lib.hid (M.out.mkLat r u (by simp) rfl)
      have B3 := Lib.hid (u.keep HV.out.2.1 kl)
      have R3 := Lib.hid (u.keep HV.out.2.2 kl2)
      have U3 : Hid (Upd k.fp zz w3) := Lib.hid (HV.out.1.trans (u.mono (fun x hx _ => by simp at hx; simp [CoB.fp, hx])))
      clear r u kl kl2 c3 W1 HL M HV MJ M0
      go_wp2_with (first
        | go_skip
        | ((with_reducible refine at_op 47 ?_); refine L_load 38 (.tmp 46) rfl (by kernel_rfl) _ _ rfl RR.toArray (MR.out _ B3.out) Tryz.underlying38 rfl 7 info_ret R7.out.1 ?_)
        | ((with_reducible refine at_st 4 ?_); refine L_store_row 38 (.tmp 4) (.tmp 47) rfl (by kernel_rfl) (zz.heap.size + 1) 0 rfl zR.cells 38 R3.out RR.toArray rfl 7 info_ret R7.out.1 (by decide) R7.out.2 ?_))
      intro wA bA uA zA
      rw [spl_all (by have := R7.out.1; simp at this; rw [show (RR.toArray.toList).length = RR.length by simp, this]; rfl)] at bA
      go_wp2_with (fail)
      refine bodyPost_ret (results_row_tmp rfl _ _ (zz.heap.size + 1) 38 RR.toArray _ _ _ rfl rfl bA Tryz.underlying38 rfl (by rw [R7.out.1]; exact info_ret)) rfl ⟨rfl, ?_⟩
      rw [HF.out]
      exact ⟨H3.out.upd uA (fun x hx hm => by have := HZ.out x hx; simp at hm; omega) (fun hm => by have := HT.out; simp at hm), U3.out.then uA (fun x hx hlt => by simp at hx; omega)⟩
end Go.Proofs.YtmdjhahafjlebaaGreatDoor
