/- A core in memory: New, right, scrub, Bits, Fixes, Flip. -/
import Derived.Test.YtmdjhahafjlebaaGreatDoorQD19
import Derived.Test.YtmdjhahafjlebaaGreatDoorQD17
import Derived.Test.YtmdjhahafjlebaaGreatDoorQD20
namespace Go.Proofs.YtmdjhahafjlebaaGreatDoor
open Go.RowKit Go.Dio
set_option linter.unusedSimpArgs false
set_option linter.unusedVariables false

def newC : CoS := ⟨List.replicate 31 0, 0, 0, List.replicate 6 0, 0, 0, List.replicate 4 0⟩
set_option maxHeartbeats 1000000 in
theorem CNew_calls (w : World) (hT : Tz w) :
    Calls Tryz.prog 11 #[] w fun e w' => ∃ k : CoB, e = .returned (.pointer (some ⟨k.cb, 0, none⟩)) ∧ CoreAt k newC w' ∧ Upd [] w w' ∧ (∀ x ∈ k.fp, w.heap.size ≤ x) := by
  have N1 := Lib.hid (FNew_calls w hT)
  have N2 : Hid (∀ z, Tz z → Calls Tryz.prog 33 #[.int .i64 6] z fun e w' => e = .returned (.pointer (some ⟨z.heap.size + 1, 0, none⟩)) ∧ RowAt 108 (z.heap.size + 1) z.heap.size (List.replicate 6 0) 0 w' ∧ Upd [] z w' ∧ w'.heap.size = z.heap.size + 2) := Lib.hid (fun z hz => New_size 6 6 z hz (by decide))
  have N3 : Hid (∀ z, Calls Tryz.prog 34 #[.int .i64 4] z fun e w' => e = .returned (.pointer (some ⟨z.heap.size + 1, 0, none⟩)) ∧ LatAt (z.heap.size + 1) z.heap.size (List.replicate 4 0) w' ∧ Upd [] z w' ∧ w'.heap.size = z.heap.size + 2) := Lib.hid (fun z => LNew_calls 4 z (by decide))
  have HT := Lib.hid hT.lt
  have HT2 := Lib.hid hT
  clear hT
  go_enter Tryz.func11, Tryz.ntmps11
  go_wp2_with (fail)
  refine N1.out.mono ?_
  rintro e w1 ⟨rfl, f1, u1, z1⟩
  have F1 := Lib.hid f1
  have U1 := Lib.hid u1
  have Z1 := Lib.hid z1
  clear f1 u1 z1
  go_wp2_with (fail)
  refine (N2.out _ (HT2.out.of_upd U1.out (by simp))).mono ?_
  rintro e w2 ⟨rfl, f2, u2, z2⟩
  have F2 := Lib.hid f2
  have U2 := Lib.hid u2
  have Z2 := Lib.hid z2
  clear f2 u2 z2
  go_wp2_with (fail)
  refine (N3.out _).mono ?_
  rintro e w3 ⟨rfl, f3, u3, z3⟩
  have F3 := Lib.hid f3
  have U3 := Lib.hid u3
  have Z3 := Lib.hid z3
  clear f3 u3 z3
  have L4 := Lib.hid (Go.heap_alloc_last w3 (.cells #[.pointer (some ⟨w.heap.size + 2, 0, none⟩), .pointer (some ⟨w1.heap.size + 1, 0, none⟩), .int .i64 0, .pointer (some ⟨w2.heap.size + 1, 0, none⟩)] 79))
  go_wp2_with (fail)
  go_ret
  have e1 := Z1.out
  have e2 := Z2.out
  have e3 := Z3.out
  have e0 := HT.out
  have UA := (Upd.refl [] w3).alloc (.cells #[.pointer (some ⟨w.heap.size + 2, 0, none⟩), .pointer (some ⟨w1.heap.size + 1, 0, none⟩), .int .i64 0, .pointer (some ⟨w2.heap.size + 1, 0, none⟩)] 79)
  refine ⟨⟨w3.heap.size, w.heap.size + 2, w.heap.size + 1, w.heap.size, w1.heap.size + 1, w1.heap.size, w2.heap.size + 1, w2.heap.size⟩, rfl, ⟨L4.out, F1.out.upd0 ((U2.out.trans U3.out).trans UA), F2.out.upd0 (U3.out.trans UA), F3.out.upd0 UA, ?_, ?_, ⟨rfl, rfl, rfl, by decide, by decide⟩⟩, ((U1.out.trans U2.out).trans U3.out).trans UA, ?_⟩
  · generalize w.heap.size = a at *
    generalize w1.heap.size = a1 at *
    subst e1
    generalize w2.heap.size = a2 at *
    subst e2
    rw [e3]
    simp [CoB.fp]
    omega
  · intro x hx
    simp [CoB.fp] at hx
    omega
  · intro x hx
    simp [CoB.fp] at hx
    omega

set_option maxHeartbeats 1000000 in
theorem right_calls (k : CoB) (s : CoS) (zz : World) (h : CoreAt k s zz) :
    Calls Tryz.prog 38 #[.pointer (some ⟨k.cb, 0, none⟩)] zz fun e z' => e = .returned (.bool s.right) ∧ z' = zz := by
  have c3 := h.c3
  have R := Lib.hid (Right_calls k.lb k.ld s.ll 0 4 zz h.lat (by have := h.ok.ll; omega))
  have G0 := Lib.hid (LGet_calls k.lb k.ld s.ll 0 zz h.lat (by have := h.ok.ll; omega))
  have G1 := Lib.hid (LGet_calls k.lb k.ld s.ll 1 zz h.lat (by have := h.ok.ll; omega))
  have G3 := Lib.hid (LGet_calls k.lb k.ld s.ll 3 zz h.lat (by have := h.ok.ll; omega))
  unfold CoS.right
  generalize nth s.ll 0 = p0 at *
  generalize nth s.ll 1 = p1 at *
  generalize nth s.ll 3 = p3 at *
  generalize rightL s.ll 0 4 = r at *
  generalize pok p0 = o0 at *
  generalize pok p1 = o1 at *
  generalize pok p3 = o3 at *
  generalize pget p0 = n0 at *
  generalize pget p1 = n1 at *
  generalize pget p3 = n3 at *
  clear h
  cases r
  · rw [Bool.false_and, Bool.false_and, Bool.false_and]
    go_enter Tryz.func38, Tryz.ntmps38
    go_wp2_with (fail)
    refine (R.out).mono ?_
    rintro e w' ⟨rfl, rfl⟩
    go_wp2_with (fail)
    go_ret
    exact ⟨rfl, rfl⟩
  · rw [Bool.true_and]
    by_cases h0 : n0 ≤ 1
    · have d0 : decide ((n0 : Int) ≤ 1) = true := decide_eq_true (by omega)
      rw [decide_eq_true h0, Bool.true_and]
      by_cases h1 : n1 ≤ 40
      · have d1 : decide ((n1 : Int) ≤ 40) = true := decide_eq_true (by omega)
        rw [decide_eq_true h1, Bool.true_and]
        by_cases h3 : n3 = 0
        · subst h3
          rw [decide_eq_true rfl]
          go_enter Tryz.func38, Tryz.ntmps38
          go_wp2_with (fail)
          refine (R.out).mono ?_
          rintro e w' ⟨rfl, rfl⟩
          go_wp2_with (fail)
          refine (G0.out).mono ?_
          rintro e w' ⟨rfl, rfl⟩
          go_wp2_with (fail)
          refine (G1.out).mono ?_
          rintro e w' ⟨rfl, rfl⟩
          go_wp2_with (fail)
          refine (G3.out).mono ?_
          rintro e w' ⟨rfl, rfl⟩
          go_wp2_with (fail)
          go_ret
          exact ⟨rfl, rfl⟩
        · have d3 : ((n3 : Int) == 0) = false := by rw [beq_eq_false_iff_ne]; omega
          rw [decide_eq_false h3]
          go_enter Tryz.func38, Tryz.ntmps38
          go_wp2_with (fail)
          refine (R.out).mono ?_
          rintro e w' ⟨rfl, rfl⟩
          go_wp2_with (fail)
          refine (G0.out).mono ?_
          rintro e w' ⟨rfl, rfl⟩
          go_wp2_with (fail)
          refine (G1.out).mono ?_
          rintro e w' ⟨rfl, rfl⟩
          go_wp2_with (fail)
          refine (G3.out).mono ?_
          rintro e w' ⟨rfl, rfl⟩
          go_wp2_with (fail)
          go_ret
          exact ⟨rfl, rfl⟩
      · have d1 : decide ((n1 : Int) ≤ 40) = false := decide_eq_false (by omega)
        rw [decide_eq_false h1, Bool.false_and]
        go_enter Tryz.func38, Tryz.ntmps38
        go_wp2_with (fail)
        refine (R.out).mono ?_
        rintro e w' ⟨rfl, rfl⟩
        go_wp2_with (fail)
        refine (G0.out).mono ?_
        rintro e w' ⟨rfl, rfl⟩
        go_wp2_with (fail)
        refine (G1.out).mono ?_
        rintro e w' ⟨rfl, rfl⟩
        go_wp2_with (fail)
        refine (G3.out).mono ?_
        rintro e w' ⟨rfl, rfl⟩
        go_wp2_with (fail)
        go_ret
        exact ⟨rfl, rfl⟩
    · have d0 : decide ((n0 : Int) ≤ 1) = false := decide_eq_false (by omega)
      rw [decide_eq_false h0, Bool.false_and, Bool.false_and]
      go_enter Tryz.func38, Tryz.ntmps38
      go_wp2_with (fail)
      refine (R.out).mono ?_
      rintro e w' ⟨rfl, rfl⟩
      go_wp2_with (fail)
      refine (G0.out).mono ?_
      rintro e w' ⟨rfl, rfl⟩
      go_wp2_with (fail)
      refine (G1.out).mono ?_
      rintro e w' ⟨rfl, rfl⟩
      go_wp2_with (fail)
      refine (G3.out).mono ?_
      rintro e w' ⟨rfl, rfl⟩
      go_wp2_with (fail)
      go_ret
      exact ⟨rfl, rfl⟩

set_option maxHeartbeats 2000000 in
theorem scrub_calls (k : CoB) (s : CoS) (zz : World) (h : CoreAt k s zz) (hf : s.ff < 9223372036854775806) (hc : s.cf < 9223372036854775806) :
    Calls Tryz.prog 39 #[.pointer (some ⟨k.cb, 0, none⟩)] zz fun e z' => e = .returned (.bool s.scrOk) ∧ CoR k s.scr zz z' := by
  have H := Lib.hid h
  have nd := Lib.hid h.nd
  have n0 : ∀ x : Near [k.fb, k.b, k.d, k.rb, k.rd] zz, x.1.cell? ⟨k.cb, 0, none⟩ = some (.pointer (some ⟨k.fb, 0, none⟩)) := fun x => by
    rw [cells_of (x.2.keep h.cell (CoB.out nd.out (I := [1, 2, 3, 4, 5]) (fun y hy => by simp at hy; rcases hy with rfl | rfl | rfl | rfl | rfl; exact ⟨1, by decide, rfl⟩; exact ⟨2, by decide, rfl⟩; exact ⟨3, by decide, rfl⟩; exact ⟨4, by decide, rfl⟩; exact ⟨5, by decide, rfl⟩) 0 rfl (by decide)))]; rfl
  have n1 : ∀ x : Near [k.fb, k.b, k.d, k.rb, k.rd] zz, x.1.cell? ⟨k.cb, 1, none⟩ = some (.pointer (some ⟨k.rb, 0, none⟩)) := fun x => by
    rw [cells_of (x.2.keep h.cell (CoB.out nd.out (I := [1, 2, 3, 4, 5]) (fun y hy => by simp at hy; rcases hy with rfl | rfl | rfl | rfl | rfl; exact ⟨1, by decide, rfl⟩; exact ⟨2, by decide, rfl⟩; exact ⟨3, by decide, rfl⟩; exact ⟨4, by decide, rfl⟩; exact ⟨5, by decide, rfl⟩) 0 rfl (by decide)))]; rfl
  have n2 : ∀ x : Near [k.fb, k.b, k.d, k.rb, k.rd] zz, x.1.cell? ⟨k.cb, 2, none⟩ = some (.int .i64 (s.ca : Int)) := fun x => by
    rw [cells_of (x.2.keep h.cell (CoB.out nd.out (I := [1, 2, 3, 4, 5]) (fun y hy => by simp at hy; rcases hy with rfl | rfl | rfl | rfl | rfl; exact ⟨1, by decide, rfl⟩; exact ⟨2, by decide, rfl⟩; exact ⟨3, by decide, rfl⟩; exact ⟨4, by decide, rfl⟩; exact ⟨5, by decide, rfl⟩) 0 rfl (by decide)))]; rfl
  have ok := h.ok
  have h6 := ok.ca
  have S1 := Lib.hid (fun z (h : CoreAt k s z) => FScrub_calls k.fb k.b k.d s.fl s.ff s.fa z h.file (by rw [h.ok.fl]; decide) (by have := h.ok.fa; omega) hf)
  have S2 := Lib.hid (fun z (r : RowAt 108 k.rb k.rd s.cl s.cf z) => Scrub_calls _ k.rb k.rd s.cl s.cf (s.ca : Int) z r hc)
  clear h hf hc
  have hm : ((s.ca : Int) + 1).tmod 6 = (((s.ca + 1) % 6 : Nat) : Int) := by rw [Int.tmod_eq_emod_of_nonneg (by omega)]; omega
  have hm2 : ((s.ca : Int) + 1) % 6 = (((s.ca + 1) % 6 : Nat) : Int) := by omega
  obtain ⟨q, hq⟩ : ∃ q, q = (s.ca + 1) % 6 := ⟨_, rfl⟩
  have hq6 : q < 6 := by omega
  obtain ⟨y1, hy1⟩ : ∃ y, y = (peekL s.fl (s.fa : Int)).2 := ⟨_, rfl⟩
  obtain ⟨y2, hy2⟩ : ∃ y, y = (peekL s.cl (s.ca : Int)).2 := ⟨_, rfl⟩
  have HS : Hid (s.scr = { s with fl := getL s.fl (s.fa : Int), ff := s.ff + getF s.fl (s.fa : Int), fa := (s.fa + 1) % s.fl.length, cl := getL s.cl (s.ca : Int), cf := s.cf + getF s.cl (s.ca : Int), ca := q }) := Lib.hid (by rw [hq]; rfl)
  unfold CoS.scrOk
  rw [← hy1, ← hy2]
  rw [← hy1] at S1
  rw [← hy2] at S2
  rw [← hq] at hm hm2
  clear hq hy1 hy2
  obtain ⟨B, hB⟩ : ∃ B, B = (decide (y1 ≠ 2) && decide (y2 ≠ 2)) := ⟨_, rfl⟩
  rw [← hB]
  have HB := Lib.hid hB
  clear hB
  have HO := Lib.hid ok
  clear ok
  go_enter Tryz.func39, Tryz.ntmps39
  go_wp2_with (fail)
  refine wp_region_plan (fun z => ∃ x : Near [k.fb, k.b, k.d, k.rb, k.rd] zz, z = x.1) [([0, 1, 2, 3, 5, 6, 7, 8, 9, 10, 11, 12], 4), ([], 13)] [14, 15] (by kernel_rfl) (by kernel_rfl) (by kernel_rfl) (by kernel_rfl) (fun _ d _ _ _ h => by cases d <;> exact h) ⟨⟨(zz).drew, (Upd.refl _ _).drew⟩, rfl⟩ ?_
  refine plan_next ?_
  simp only [opsAt, List.map_cons, List.map_nil, List.getElem?_toArray, List.getElem?_cons_zero, List.getElem?_cons_succ, Option.getD_some]
  repeat (go_big_quiet_step (fail))
  refine wpQuiet_nil ?_
  refine plan_one rfl ?_
  go_wp2_with fail
  refine (S1.out _ (H.out.upd0 (Upd.refl _ _).drew)).mono ?_
  rintro e w1 ⟨rfl, f1, u1⟩
  have D := Lib.hid ((Upd.refl [] zz).drew)
  have H1 := Lib.hid ((H.out.upd0 D.out).mkFile f1 u1 (by simp) (by rw [getL_len]; exact HO.out.fl) (by rw [HO.out.fl]; exact Nat.mod_lt _ (by decide)))
  have U1 : Upd [k.fb, k.b, k.d, k.rb, k.rd] zz w1 := (D.out.mono (by simp)).trans (u1.mono (fun x hx _ => by simp at hx; rcases hx with h | h | h <;> simp [h]))
  clear f1 u1
  go_wp2_with fail
  refine plan_same ⟨⟨_, U1⟩, rfl⟩ ?_
  refine plan_next ?_
  simp only [opsAt, List.map_cons, List.map_nil, List.getElem?_toArray, List.getElem?_cons_zero, List.getElem?_cons_succ, Option.getD_some]
  repeat (go_big_quiet_step (fail))
  refine wpQuiet_nil ?_
  refine plan_one rfl ?_
  go_wp2_with fail
  refine (S2.out _ H1.out.row).mono ?_
  rintro e w2 ⟨rfl, r2, u2⟩
  have H2 := Lib.hid (H1.out.mkRow r2 u2 (by simp) (by rw [getL_len]; exact HO.out.cl))
  have U2 : Upd [k.fb, k.b, k.d, k.rb, k.rd] zz w2 := U1.trans (u2.mono (fun x hx _ => by simp at hx; rcases hx with h | h <;> simp [h]))
  clear r2 u2
  go_wp2_with fail
  have c2 := H2.out.c2
  have f2 := free_of H2.out.cell 2
  dsimp only at c2
  clear n0 n1 n2
  have H3 := Lib.hid (H2.out.mkAt q hq6)
  have U3 := Lib.hid (((U2.mono (T := k.fp) (fun x hx _ => by simp at hx; rcases hx with h | h | h | h | h <;> simp [CoB.fp, h])).setCell (p := ⟨k.cb, 2, none⟩) (by simp [CoB.fp]) (.int .i64 (q : Int))))
  generalize hW3 : w2.setCell ⟨k.cb, 2, none⟩ (.int .i64 (q : Int)) = w3 at H3 U3
  have HW3 := Lib.hid hW3
  rw [← HS.out] at H3
  clear hW3
  by_cases h1 : y1 = 2
  · subst h1
    have hb : B = false := by rw [HB.out]; simp
    subst hb
    refine plan_same ⟨⟨_, U2⟩, rfl⟩ ?_
    refine plan_last ?_
    simp only [opsAt, List.map_cons, List.map_nil, List.getElem?_toArray, List.getElem?_cons_zero, List.getElem?_cons_succ, Option.getD_some]
    repeat (go_big_quiet_step (fail))
    refine wpQuiet_nil ?_
    unfold planEnd
    go_wp2_with fail
    rw [HW3.out]
    go_ret
    exact ⟨rfl, H3.out, U3.out⟩
  · have d1 : ((y1 : Int) != 2) = true := by simp; omega
    have d1' : ((y1 : Int) == 2) = false := by rw [beq_eq_false_iff_ne]; omega
    by_cases h2 : y2 = 2
    · subst h2
      have hb : B = false := by rw [HB.out]; simp
      subst hb
      refine plan_same ⟨⟨_, U2⟩, rfl⟩ ?_
      refine plan_last ?_
      simp only [opsAt, List.map_cons, List.map_nil, List.getElem?_toArray, List.getElem?_cons_zero, List.getElem?_cons_succ, Option.getD_some]
      repeat (go_big_quiet_step (fail))
      refine wpQuiet_nil ?_
      unfold planEnd
      go_wp2_with fail
      rw [HW3.out]
      go_ret
      exact ⟨rfl, H3.out, U3.out⟩
    · have d2 : ((y2 : Int) != 2) = true := by simp; omega
      have d2' : ((y2 : Int) == 2) = false := by rw [beq_eq_false_iff_ne]; omega
      have hb : B = true := by rw [HB.out, decide_eq_true h1, decide_eq_true h2]; rfl
      subst hb
      refine plan_same ⟨⟨_, U2⟩, rfl⟩ ?_
      refine plan_last ?_
      simp only [opsAt, List.map_cons, List.map_nil, List.getElem?_toArray, List.getElem?_cons_zero, List.getElem?_cons_succ, Option.getD_some]
      repeat (go_big_quiet_step (fail))
      refine wpQuiet_nil ?_
      unfold planEnd
      go_wp2_with fail
      rw [HW3.out]
      go_ret
      exact ⟨rfl, H3.out, U3.out⟩
end Go.Proofs.YtmdjhahafjlebaaGreatDoor

namespace Go.Proofs.YtmdjhahafjlebaaGreatDoor
open Go.RowKit Go.Dio

theorem E_fbits {w0 : World} {As : List Ast} {w : World} (h : Env w0 As w) (_ : Tz w0) (k : Nat) {fb b d : Nat} {l : List Nat} {f a : Nat} (hk : As[k]? = some (fileA fb b d l f a)) :
    Calls Tryz.prog 35 #[.pointer (some ⟨fb, 0, none⟩)] w fun e w' => e = .returned (.int .i64 ((l.length : Int) * 39)) ∧ w' = w :=
  FBits_calls fb b d l f a w (h.ok k _ hk)
theorem E_fall {w0 : World} {As : List Ast} {w : World} (h : Env w0 As w) (_ : Tz w0) (k : Nat) {fb b d : Nat} {l : List Nat} {f a : Nat} (hk : As[k]? = some (fileA fb b d l f a)) (hl : l.length = 31) :
    Calls Tryz.prog 45 #[.pointer (some ⟨fb, 0, none⟩)] w fun e w' => e = .returned (.tuple #[.agg (nums .u32 (if allB l then allV l else zeros 32)), .bool (allB l)]) ∧ Env w0 As w' ∧ Upd [] w w' :=
  (FAll_calls fb b d l f a w (h.ok k _ hk) hl).mono fun _ _ ⟨he, hb⟩ => ⟨he, h.near (Upd.of_below hb), Upd.of_below hb⟩
section
variable {w0 : World} {As : List Ast} {w : World} (h : Env w0 As w) (h0 : Tz w0) (k : Nat)
include h h0
section
variable {fb b d : Nat} {l : List Nat} {f a : Nat} (hk : As[k]? = some (fileA fb b d l f a))
include hk
theorem E_fwrite (i : Int) (v : Nat) (hi : -9223372036854775808 ≤ i ∧ i ≤ 9223372036854775807) (hv : v < 2 ^ 32) :
    Calls Tryz.prog 50 #[.pointer (some ⟨fb, 0, none⟩), .int .i64 i, .int .u32 (v : Int)] w fun e w' => e = .returned (.bool (wrB l i)) ∧ Env w0 (As.set k (fileA fb b d (wrL l i v) f a)) w' ∧ Upd [d] w w' :=
  (FWrite_calls fb b d l f a i v w (h.ok k _ hk) hi.1 hi.2 hv).mono fun _ _ ⟨he, hr, hu⟩ => ⟨he, h.set h0 k hk hu (by simp [fileA]) hr rfl, hu⟩
theorem E_fread (i : Int) (hi : -9223372036854775808 ≤ i ∧ i ≤ 9223372036854775807) (hf : f < 9223372036854775806) :
    Calls Tryz.prog 78 #[.pointer (some ⟨fb, 0, none⟩), .int .i64 i] w fun e w' => e = .returned (.tuple #[.int .u32 ((rdV l i).1 : Int), .int .i64 ((rdV l i).2 : Int)]) ∧ Env w0 (As.set k (fileA fb b d (rdL l i) (f + rdF l i) a)) w' ∧ Upd [b, d] w w' :=
  (FRead_calls fb b d l f a i w (h.ok k _ hk) hi.1 hi.2 hf).mono fun _ _ ⟨he, hr, hu⟩ => ⟨he, h.set h0 k hk hu (by simp [fileA]) hr rfl, hu⟩
theorem E_fflip (c : Int) :
    Calls Tryz.prog 47 #[.pointer (some ⟨fb, 0, none⟩), .int .i64 c] w fun e w' => e = .returned (.bool (flipB l c)) ∧ Env w0 (As.set k (fileA fb b d (flipL l c) f a)) w' ∧ Upd [d] w w' :=
  (FFlip_calls fb b d l f a c w (h.ok k _ hk)).mono fun _ _ ⟨he, hr, hu⟩ => ⟨he, h.set h0 k hk hu (by simp [fileA]) hr rfl, hu⟩
theorem E_fscrub (hl : 0 < l.length) (ha : a < 2048) (hf : f < 9223372036854775806) :
    Calls Tryz.prog 67 #[.pointer (some ⟨fb, 0, none⟩)] w fun e w' => e = .returned (.int .i64 ((peekL l (a : Int)).2 : Int)) ∧ Env w0 (As.set k (fileA fb b d (getL l (a : Int)) (f + getF l (a : Int)) ((a + 1) % l.length))) w' ∧ Upd [fb, b, d] w w' :=
  (FScrub_calls fb b d l f a w (h.ok k _ hk) hl ha hf).mono fun _ _ ⟨he, hr, hu⟩ => ⟨he, h.set h0 k hk hu (by simp [fileA]) hr rfl, hu⟩
end
section
end
end

theorem E_fnew (w : World) (hT : Tz w) :
    Calls Tryz.prog 32 #[] w fun e w' => e = .returned (.pointer (some ⟨w.heap.size + 2, 0, none⟩)) ∧ Env w [fileA (w.heap.size + 2) (w.heap.size + 1) w.heap.size (List.replicate 31 0) 0 0] w' :=
  (FNew_calls w hT).mono fun _ _ ⟨he, hr, hu, hz⟩ => ⟨he, (Env.none hT).add hu _ hr (by simp [fileA]) (fun x hx => by simp [fileA] at hx; omega)⟩
end Go.Proofs.YtmdjhahafjlebaaGreatDoor

namespace Go.Proofs.YtmdjhahafjlebaaGreatDoor
open Go.RowKit Go.Dio
set_option linter.unusedSimpArgs false
set_option linter.unusedVariables false

theorem ext_nth {l m : List Nat} (h : l.length = m.length) (e : ∀ i, i < l.length → nth l i = nth m i) : l = m := by
  apply List.ext_getElem h
  intro i h1 h2
  have := e i h1
  rwa [nth_eq l i h1, nth_eq m i h2] at this
theorem enc_tail {l R : List Nat} (hl : l.length = 31) (hR : R.length = 32) (h : ∀ j, j + 1 < 32 → nth l j = enc (nth R (j + 1))) : l = R.tail.map enc := by
  apply ext_nth (by simp [hl, hR])
  intro i hi
  rw [h i (by omega), nth_eq (R.tail.map enc) i (by simp; omega), nth_eq R (i + 1) (by omega)]
  simp
theorem enc_six {l C : List Nat} {p : Nat} (hl : l.length = 6) (hC : C.length = 5) (h0 : nth l 0 = enc p) (h : ∀ j, j < 5 → nth l (j + 1) = enc (nth C j)) : l = (p :: C).map enc := by
  apply ext_nth (by simp [hl, hC])
  intro i hi
  cases i with
  | zero => rw [h0]; rfl
  | succ j =>
    rw [h j (by omega), nth_eq ((p :: C).map enc) (j + 1) (by simp; omega), nth_eq C j (by omega)]
    simp
theorem wrL_nat (l : List Nat) (i v : Nat) (hl : l.length = 31) (hi : i < 32) : wrL l (i : Int) v = if i = 0 then l else l.set (i - 1) (enc v) := by
  unfold wrL putL
  by_cases h : i = 0
  · subst h; rfl
  · rw [if_neg (by omega), if_neg h, inn_of (by omega) (by omega), if_pos rfl, show ((i : Int) - 1).toNat = i - 1 by omega]
theorem putL_nat (l : List Nat) (i v : Nat) (hi : i < l.length) : putL l (i : Int) v = l.set i (enc v) := by
  unfold putL
  rw [inn_of (by omega) (by omega), if_pos rfl, Int.toNat_natCast]
theorem row_arr {w : World} {g : Nat} {a : Array Value} {t : TypeId} (h : w.heap[g]? = some (.cells a t (0, 0))) : w.rangeAt g 0 a.toList := fun j v hv => by
  rw [cells_of h, Nat.zero_add]; simpa using hv
theorem heap2 (z : World) (o p : Obj) : ((z.alloc o).alloc p).heap[z.heap.size + 1]? = some p := by simpa using Go.heap_alloc_last (z.alloc o) p
theorem info_rc5 : (Tryz.prog.info? 42).map (·.size) = some 5 := by kernel_rfl
set_option maxRecDepth 20000 in
set_option maxHeartbeats 4000000 in
theorem Reset_calls (k : CoB) (s : CoS) (p : Nat) (R C : List Nat) (zz : World) (h : CoreAt k s zz) (hp : p < 2 ^ 32) (hR : R.length = 32) (hC : C.length = 5) (hRl : ∀ x ∈ R, x < 2 ^ 32) (hCl : ∀ x ∈ C, x < 2 ^ 32) :
    Calls Tryz.prog 19 #[.pointer (some ⟨k.cb, 0, none⟩), .int .u32 (p : Int), .agg (nums .u32 R), .agg (nums .u32 C)] zz fun e z' => e = .returned (.tuple #[]) ∧ CoR k (s.reset p R C) zz z' := by
  have H := Lib.hid h
  have ok := Lib.hid h.ok
  have HZ := Lib.hid h.lt
  have HLR := Lib.hid hR
  have HLC := Lib.hid hC
  have WR := Lib.hid (fun (i : Nat) (m : List Nat) w (hi : i < 32) (hm : m.length = 31) (h : FileAt k.fb k.b k.d m s.ff s.fa w) => FWrite_calls k.fb k.b k.d m s.ff s.fa (i : Int) (nth R i) w h (by omega) (by omega) (nth_lt hRl (by decide) i))
  have PU := Lib.hid (fun (i v : Nat) (m : List Nat) w (hv : v < 2 ^ 32) (h : RowAt 108 k.rb k.rd m s.cf w) => Put_calls _ k.rb k.rd m s.cf (i : Int) v w h hv)
  have hix : ∀ (i : Nat) (w : World), i < 32 → (Instr.index 41 (.agg (nums .u32 R)) (.int .i64 (i : Int))).run Tryz.prog w = .ok (.int .u32 ((nth R i : Nat) : Int)) w := fun i w hi => run_index_nums 41 36 32 .u32 R i Tryz.underlying41 (fun _ => by kernel_rfl) (fun _ => by kernel_rfl) hR hi w
  have hiy : ∀ (i : Nat) (w : World), i < 5 → (Instr.index 42 (.agg (nums .u32 C)) (.int .i64 (i : Int))).run Tryz.prog w = .ok (.int .u32 ((nth C i : Nat) : Int)) w := fun i w hi => run_index_nums 42 36 5 .u32 C i Tryz.underlying42 (fun _ => by kernel_rfl) (fun _ => by kernel_rfl) hC hi w
  have CL : Hid (∀ j, nth C j < 2 ^ 32) := Lib.hid (fun j => nth_lt hCl (by decide) j)
  clear h hRl hCl
  go_enter Tryz.func19, Tryz.ntmps19
  go_upto_region 1 with (fail)
  generalize hW : World.alloc (World.alloc zz _) _ = z0
  have B1 : Hid (z0.heap[zz.heap.size]? = some (.cells (nums .u32 R) 41 (0, 0))) := Lib.hid (by rw [← hW]; exact heap_old (Go.heap_alloc_last zz _) _)
  have B2 : Hid (z0.heap[zz.heap.size + 1]? = some (.cells (nums .u32 C) 42 (0, 0))) := Lib.hid (by rw [← hW]; exact heap2 zz _ _)
  have U0 : Hid (Upd [] zz z0) := Lib.hid (by rw [← hW]; exact ((Upd.refl _ _).alloc _).alloc _)
  clear hW
  have H0 := Lib.hid (H.out.upd0 U0.out)
  go_wp2_with (first
    | go_skip
    | ((with_reducible refine at_op 12 ?_); refine L_load 41 (.tmp 6) rfl (by kernel_rfl) _ _ rfl (nums .u32 R) (row_arr B1.out) Tryz.underlying41 rfl 32 info_r32 (by rw [nums_size]; exact HLR.out) ?_))
  have P0 : Hid (∃ m : List Nat, CoreAt k { s with fl := m } z0 ∧ m.length = 31 ∧ ∀ j, j + 1 < 0 → nth m j = enc (nth R (j + 1))) := Lib.hid ⟨s.fl, H0.out, ok.out.fl, fun j hj => by omega⟩
  have V0 : Hid (Upd k.fp zz z0 ∧ z0.heap[zz.heap.size + 1]? = some (.cells (nums .u32 C) 42 (0, 0))) := Lib.hid ⟨U0.out.mono (by simp), B2.out⟩
  clear H0 B1 B2 U0
  go_loopw [13] (fun v13 wl => ∃ i : Nat, v13 = .int .i64 (i : Int) ∧ i ≤ 32 ∧ Hid (∃ m : List Nat, CoreAt k { s with fl := m } wl ∧ m.length = 31 ∧ ∀ j, j + 1 < i → nth m j = enc (nth R (j + 1))) ∧ Hid (Upd k.fp zz wl ∧ wl.heap[zz.heap.size + 1]? = some (.cells (nums .u32 C) 42 (0, 0)))) (fun v13 _ => 32 - (intOf v13).toNat)
  case atStart => exact ⟨0, rfl, by omega, P0, V0⟩
  case round =>
    obtain ⟨i, rfl, hi, HX, HV⟩ := hrel
    obtain ⟨m, hm, hml, hmj⟩ := HX.out
    have M := Lib.hid hm
    have MJ := Lib.hid hmj
    clear HX hm hmj
    rcases Nat.lt_or_ge i 32 with hlt | hge
    · have dl : decide ((i : Int) < 32) = true := decide_eq_true (by omega)
      have c0 := M.out.c0
      have W1 := Lib.hid (WR.out i m wr hlt hml M.out.file)
      generalize wrB m (i : Int) = bb at *
      have HL : Hid (wrL m (i : Int) (nth R i) = if i = 0 then m else m.set (i - 1) (enc (nth R i))) := Lib.hid (wrL_nat m i _ hml hlt)
      go_wp2_with (fail)
      refine W1.out.mono ?_
      rintro e w1 ⟨rfl, r, u⟩
      rw [HL.out] at r
      have r' := r
      have hl2 : (if i = 0 then m else m.set (i - 1) (enc (nth R i))).length = 31 := by split <;> simp [hml]
      have Q : Hid (∃ m : List Nat, CoreAt k { s with fl := m } w1 ∧ m.length = 31 ∧ ∀ j, j + 1 < i + 1 → nth m j = enc (nth R (j + 1))) := Lib.hid ⟨_, M.out.mkFile r' u (by simp) hl2 ok.out.fa, hl2, fun j hj => by
        rcases Nat.eq_zero_or_pos i with h0 | h0
        · omega
        · rw [if_neg (by omega)]
          by_cases e : i - 1 = j
          · subst e; rw [nth_set_eq (by omega), show i - 1 + 1 = i by omega]
          · rw [nth_set_ne e]; exact MJ.out j (by omega)⟩
      have V : Hid (Upd k.fp zz w1 ∧ w1.heap[zz.heap.size + 1]? = some (.cells (nums .u32 C) 42 (0, 0))) := Lib.hid ⟨HV.out.1.trans (u.mono (fun x hx _ => by simp at hx; simp [CoB.fp, hx])), u.keep HV.out.2 (fun hx => by have := HZ.out k.d (by simp [CoB.fp]); simp at hx; omega)⟩
      clear r r' u
      go_wp2_with (fail)
      go_roundw
      case measure => simp [intOf]; omega
      case rel => exact ⟨i + 1, by go_num, by omega, Q, V⟩
    · obtain rfl : i = 32 := by omega
      have e1 : m = R.tail.map enc := enc_tail hml HLR.out MJ.out
      subst e1
      have c1 := M.out.c1
      have W1 := Lib.hid (PU.out 0 p s.cl wr hp M.out.row)
      have HL : Hid (putL s.cl ((0 : Nat) : Int) p = s.cl.set 0 (enc p)) := Lib.hid (putL_nat s.cl 0 p (by rw [ok.out.cl]; decide))
      clear MJ hix
      generalize inn s.cl ((0 : Nat) : Int) = bb at *
      go_wp2_with (fail)
      refine W1.out.mono ?_
      rintro e w1 ⟨rfl, r, u⟩
      rw [HL.out] at r
      have B2 := Lib.hid (u.keep HV.out.2 (fun hx => by have := HZ.out k.rd (by simp [CoB.fp]); simp at hx; omega))
      have Q0 : Hid (∃ m2 : List Nat, CoreAt k { s with fl := R.tail.map enc, cl := m2 } w1 ∧ m2.length = 6 ∧ nth m2 0 = enc p ∧ ∀ j, j < 0 → nth m2 (j + 1) = enc (nth C j)) := Lib.hid ⟨_, M.out.mkRow r u (by simp) (by simpa using ok.out.cl), by simpa using ok.out.cl, nth_set_eq (by rw [ok.out.cl]; decide), fun j hj => by omega⟩
      have V1 : Hid (Upd k.fp zz w1) := Lib.hid (HV.out.1.trans (u.mono (fun x hx _ => by simp at hx; simp [CoB.fp, hx])))
      clear r u c1 M HV W1 HL
      go_wp2_with (first
        | go_skip
        | ((with_reducible refine at_op 31 ?_); refine L_load 42 (.tmp 7) rfl (by kernel_rfl) _ _ rfl (nums .u32 C) (row_arr B2.out) Tryz.underlying42 rfl 5 info_rc5 (by rw [nums_size]; exact HLC.out) ?_))
      go_loopw [32] (fun v32 wl => ∃ i : Nat, v32 = .int .i64 (i : Int) ∧ i ≤ 5 ∧ Hid (∃ m2 : List Nat, CoreAt k { s with fl := R.tail.map enc, cl := m2 } wl ∧ m2.length = 6 ∧ nth m2 0 = enc p ∧ ∀ j, j < i → nth m2 (j + 1) = enc (nth C j)) ∧ Hid (Upd k.fp zz wl)) (fun v32 _ => 5 - (intOf v32).toNat)
      case atStart => exact ⟨0, rfl, by omega, Q0, V1⟩
      case round =>
        obtain ⟨i, rfl, hi2, HX, HV⟩ := hrel
        obtain ⟨m2, hm, hml2, hm0, hmj⟩ := HX.out
        have M := Lib.hid hm
        have MJ := Lib.hid hmj
        have M0 := Lib.hid hm0
        clear HX hm hmj hm0
        rcases Nat.lt_or_ge i 5 with hlt | hge
        · have dl : decide ((i : Int) < 5) = true := decide_eq_true (by omega)
          have c1 := M.out.c1
          have W1 := Lib.hid (PU.out (i + 1) (nth C i) m2 wr (CL.out i) M.out.row)
          have hs : (1 : Int) + (i : Int) = ((i + 1 : Nat) : Int) := by omega
          have HL : Hid (putL m2 ((i + 1 : Nat) : Int) (nth C i) = m2.set (i + 1) (enc (nth C i))) := Lib.hid (putL_nat m2 (i + 1) _ (by omega))
          generalize inn m2 ((i + 1 : Nat) : Int) = bb at *
          obtain ⟨i1, hi1⟩ : ∃ i1, i1 = i + 1 := ⟨_, rfl⟩
          rw [← hi1] at W1 HL hs
          have HI1 := Lib.hid hi1
          clear hi1
          go_wp2_with (fail)
          refine W1.out.mono ?_
          rintro e w2 ⟨rfl, r, u⟩
          rw [HL.out, HI1.out] at r
          have Q : Hid (∃ m2 : List Nat, CoreAt k { s with fl := R.tail.map enc, cl := m2 } w2 ∧ m2.length = 6 ∧ nth m2 0 = enc p ∧ ∀ j, j < i + 1 → nth m2 (j + 1) = enc (nth C j)) := Lib.hid ⟨_, M.out.mkRow r u (by simp) (by simpa using hml2), by simpa using hml2, by rw [nth_set_ne (by omega)]; exact M0.out, fun j hj => by
            by_cases e : i = j
            · subst e; rw [nth_set_eq (by omega)]
            · rw [nth_set_ne (by omega)]; exact MJ.out j (by omega)⟩
          have V : Hid (Upd k.fp zz w2) := Lib.hid (HV.out.trans (u.mono (fun x hx _ => by simp at hx; simp [CoB.fp, hx])))
          clear r u
          go_wp2_with (fail)
          go_roundw
          case measure => simp [intOf]; omega
          case rel => exact ⟨i + 1, by go_num, by omega, Q, V⟩
        · obtain rfl : i = 5 := by omega
          have e2 : m2 = (p :: C).map enc := enc_six hml2 HLC.out M0.out MJ.out
          subst e2
          have c3 := M.out.c3
          have W1 := Lib.hid (LClear_calls k.lb k.ld s.ll wr M.out.lat (by rw [ok.out.ll]; decide))
          have HL : Hid (List.replicate s.ll.length 0 = [0, 0, 0, 0]) := Lib.hid (by rw [ok.out.ll]; rfl)
          go_wp2_with (fail)
          refine W1.out.mono ?_
          rintro e w2 ⟨rfl, r, u⟩
          rw [HL.out] at r
          go_wp2_with (fail)
          go_end0
          exact ⟨rfl, M.out.mkLat r u (by simp) rfl, HV.out.trans (u.mono (fun x hx _ => by simp at hx; simp [CoB.fp, hx]))⟩
end Go.Proofs.YtmdjhahafjlebaaGreatDoor
