/- Law 11, 'ModelPlays'. -/
import Derived.Test.YtggjmdgonjhioaaGreatQZ54
import Derived.Test.YtggjmdgonjhioaaGreatQZ01
import Derived.ChangeSame
import Derived.JoinedOf
import Derived.JoinedAt
namespace Go.Proofs.YtggjmdgonjhioaaGreat
open Go.RowKit Go.Dio
set_option linter.unusedSimpArgs false
set_option linter.unusedVariables false

theorem play_any (A : Option Addr) (ns : List Nat) (m c n : Nat) (zz : World) (hm : m = ns.length) (hA : NumsAt zz .u32 A ns) (hs : ∀ x ∈ ns, x < 2 ^ 32) (hn : n ≤ 400) :
    Calls Tryz.prog 5 #[.slice A m c, .int .i64 (n : Int)] zz fun e z' => e = .returned (.bool true) ∧ Upd [] zz z' := by
  rcases Nat.lt_or_ge 1024 m with h | h
  · exact play_long A m c n zz h
  · exact play_calls A ns m c n zz hm hA hs h hn
set_option maxRecDepth 20000 in
set_option maxHeartbeats 8000000 in
theorem mplays_walk (A A2 A3 : Option Addr) (L L3 : List Int) (R : List Nat) (c c2 c3 : Nat) (zz : World) (hA : IntsAt zz A L) (hlt : ∀ b o s, A = some ⟨b, o, s⟩ → b < zz.heap.size) (hsm : L.length ≤ 9223372036854775807)
    (hwf : ∀ x ∈ L, -9223372036854775808 ≤ x ∧ x ≤ 9223372036854775807) (hR : NumsAt zz .u32 A2 R) (hs : ∀ x ∈ R, x < 2 ^ 32) (hc2 : R.length ≤ c2) (hc2' : c2 ≤ 9223372036854775807)
    (hA3 : IntsAt zz A3 L3) (hlt3 : ∀ b o s, A3 = some ⟨b, o, s⟩ → b < zz.heap.size) (hsm3 : L3.length ≤ 9223372036854775807)
    (hwf3 : ∀ x ∈ L3, -9223372036854775808 ≤ x ∧ x ≤ 9223372036854775807) :
    Calls Tryz.prog 4 #[.slice A L.length c, .slice A2 R.length c2, .slice A3 L3.length c3] zz fun e z' => e = .returned (.bool true) ∧ Upd [] zz z' := by
  have I := Lib.hid (Image_calls A L c zz hA hlt hsm hwf)
  have R3 := Lib.hid (fun (k : Nat) w1 (u : Upd [] zz w1) (hk : k ≤ 100) => Raw_calls A3 L3 c3 k w1 (hA3.of_upd u) (fun b o s h => Nat.lt_of_lt_of_le (hlt3 b o s h) u.size) hsm3 hwf3 hk)
  generalize L.length = N at I ⊢
  generalize L3.length = N3 at R3 ⊢
  clear hA hlt hsm hwf hA3 hlt3 hsm3 hwf3
  rcases Nat.lt_or_ge 1100 R.length with h1 | h1
  · have HR : Hid (∀ w, Upd [] zz w → NumsAt w .u32 A2 (R.take 1100)) := Lib.hid (fun w u => (hR.take 1100).of_upd u)
    have HS : Hid (∀ x ∈ R.take 1100, x < 2 ^ 32) := Lib.hid (fun x hx => hs x (List.mem_of_mem_take hx))
    have HM : Hid (1100 = (R.take 1100).length) := Lib.hid (by rw [List.length_take]; omega)
    have PL : Hid (∀ (n : Nat) w, Upd [] zz w → n ≤ 400 → Calls Tryz.prog 5 #[.slice A2 1100 c2, .int .i64 (n : Int)] w fun e z' => e = .returned (.bool true) ∧ Upd [] w z') :=
      Lib.hid (fun n w u hn => play_any A2 _ 1100 c2 n w HM.out (HR.out w u) HS.out hn)
    have dl : decide ((1100 : Int) < (R.length : Int)) = true := decide_eq_true (by omega)
    have hc3 : 1100 ≤ c2 := by omega
    generalize R.take 1100 = R2 at *
    generalize R.length = m2 at *
    clear hR hs hc2 h1
    go_enter Tryz.func4, Tryz.ntmps4
    go_wp2_with (fail)
    go_wp2_with (fail)
    refine I.out.mono ?_
    rintro e w1 ⟨B1, c1, l1, rfl, O1, hx1, hl1, u1⟩
    have J1 := Lib.hid (play_calls B1 l1 l1.length c1 400 w1 rfl O1.nat hx1 (by omega) (by decide))
    have U1 := Lib.hid u1
    generalize l1.length = m1 at *
    clear O1 hx1 hl1 u1 I
    go_wp2_with (fail)
    refine J1.out.mono ?_
    rintro e w2 ⟨rfl, u2⟩
    have U2 := Lib.hid (U1.out.trans u2)
    clear u2 J1
    go_wp2_with (fail)
    refine (R3.out 80 w2 U2.out (by decide)).mono ?_
    rintro e w3 ⟨B3, d3, l3, rfl, O3, hx3, hl3, u3⟩
    have J3 := Lib.hid (play_calls B3 l3 l3.length d3 80 w3 rfl O3.nat hx3 (by omega) (by decide))
    have U3 := Lib.hid (U2.out.trans u3)
    generalize l3.length = m3 at *
    clear O3 hx3 hl3 u3
    go_wp2_with (fail)
    refine J3.out.mono ?_
    rintro e w4 ⟨rfl, u4⟩
    have U4 := Lib.hid (U3.out.trans u4)
    clear u4 J3
    go_wp2_with (fail)
    refine (PL.out 40 w4 U4.out (by decide)).mono ?_
    rintro e w5 ⟨rfl, u5⟩
    have U5 := Lib.hid (U4.out.trans u5)
    clear u5 PL
    go_wp2_with (fail)
    have o6 := Ow.lit w5 [] zz.heap.size U5.out.size (by simp)
    have U6' := U5.out.alloc (.cells (nums .u32 []) 36)
    generalize hW : World.alloc w5 _ = w6
    have hW2 : w5.alloc (.cells (nums .u32 []) 36) = w6 := hW
    rw [hW2] at o6 U6'
    have g5 := U5.out.size
    generalize w5.heap.size = b5 at *
    have O6 := Lib.hid o6
    have U6 := Lib.hid U6'
    clear hW hW2 o6 U6'
    refine (R3.out 40 w6 U6.out (by decide)).mono ?_
    rintro e w7 ⟨B7, c7, l7, rfl, O7, hx7, hl7, u7⟩
    have O67 := Lib.hid (O6.out.upd u7 (fun g hg => by simp at hg))
    have U7 := Lib.hid (U6.out.trans u7)
    have N7 := Lib.hid O7.nat
    have HX7 := Lib.hid hx7
    clear O6 O7 u7 hx7
    go_wp2_with (first | go_skip | ((with_reducible refine at_op 28 ?_); refine L_app2 (.tmp 25) (.tmp 27) rfl (by kernel_rfl) zz.heap.size _ [] rfl O67.out B7 l7.length c7 l7 rfl rfl N7.out (by simp; omega) U7.out.size ?_))
    intro v8 w8 o8 u8 hb8
    have U8 := Lib.hid (U7.out.then u8 (fun x hx hlt => by simp [Value.ownBlock] at hx; omega))
    have O8 := Lib.hid o8
    clear u8 hb8 o8 O67 N7
    go_wp2_with (first | go_skip | ((with_reducible refine at_op 30 ?_); refine L_app (.tmp 28) (.tmp 29) rfl (by kernel_rfl) zz.heap.size v8 l7 rfl O8.out A2 1100 c2 R2 rfl HM.out (HR.out _ U8.out) (by have := HM.out; simp; omega) U8.out.size ?_))
    intro v9 w9 o9 u9
    have U9 := Lib.hid (U8.out.then u9 (fun x hx hlt => by have := O8.out.lt x hx; omega))
    have hx9 : ∀ x ∈ l7 ++ R2, x < 2 ^ 32 := fun x hx => by
      rcases List.mem_append.1 hx with h | h
      · exact HX7.out x h
      · exact HS.out x h
    obtain ⟨P9, hP9⟩ : ∃ P9, P9 = l7 ++ R2 := ⟨_, rfl⟩
    rw [← hP9] at o9 hx9
    clear hP9
    obtain ⟨A9, c9, rfl, _, _, N9, _⟩ := o9.words
    obtain ⟨m9, hm9⟩ : ∃ m9, m9 = P9.length := ⟨_, rfl⟩
    rw [← hm9]
    have Q9 := Lib.hid (play_any A9 P9 m9 c9 60 w9 hm9 N9 hx9 (by decide))
    clear o9 u9 N9 O8 HX7 hx9 hm9
    go_wp2_with (fail)
    refine Q9.out.mono ?_
    rintro e w10 ⟨rfl, u10⟩
    have U10 := Lib.hid (U9.out.trans u10)
    clear u10 Q9
    go_wp2_with (fail)
    refine (known_calls _).mono ?_
    rintro e w11 ⟨rfl, u11⟩
    have U11 := Lib.hid (U10.out.trans u11)
    clear u11
    go_wp2_with (fail)
    go_ret
    exact ⟨rfl, U11.out⟩
  · have HR : Hid (∀ w, Upd [] zz w → NumsAt w .u32 A2 R) := Lib.hid (fun w u => hR.of_upd u)
    have HS := Lib.hid hs
    obtain ⟨m2, hm2⟩ : ∃ m2, m2 = R.length := ⟨_, rfl⟩
    rw [← hm2] at h1 ⊢
    have HM := Lib.hid hm2
    have PL : Hid (∀ (n : Nat) w, Upd [] zz w → n ≤ 400 → Calls Tryz.prog 5 #[.slice A2 m2 c2, .int .i64 (n : Int)] w fun e z' => e = .returned (.bool true) ∧ Upd [] w z') :=
      Lib.hid (fun n w u hn => play_any A2 _ m2 c2 n w HM.out (HR.out w u) HS.out hn)
    have dl : decide ((1100 : Int) < (m2 : Int)) = false := decide_eq_false (by omega)
    clear hR hs hc2 hm2
    go_enter Tryz.func4, Tryz.ntmps4
    go_wp2_with (fail)
    go_wp2_with (fail)
    refine I.out.mono ?_
    rintro e w1 ⟨B1, c1, l1, rfl, O1, hx1, hl1, u1⟩
    have J1 := Lib.hid (play_calls B1 l1 l1.length c1 400 w1 rfl O1.nat hx1 (by omega) (by decide))
    have U1 := Lib.hid u1
    generalize l1.length = m1 at *
    clear O1 hx1 hl1 u1 I
    go_wp2_with (fail)
    refine J1.out.mono ?_
    rintro e w2 ⟨rfl, u2⟩
    have U2 := Lib.hid (U1.out.trans u2)
    clear u2 J1
    go_wp2_with (fail)
    refine (R3.out 80 w2 U2.out (by decide)).mono ?_
    rintro e w3 ⟨B3, d3, l3, rfl, O3, hx3, hl3, u3⟩
    have J3 := Lib.hid (play_calls B3 l3 l3.length d3 80 w3 rfl O3.nat hx3 (by omega) (by decide))
    have U3 := Lib.hid (U2.out.trans u3)
    generalize l3.length = m3 at *
    clear O3 hx3 hl3 u3
    go_wp2_with (fail)
    refine J3.out.mono ?_
    rintro e w4 ⟨rfl, u4⟩
    have U4 := Lib.hid (U3.out.trans u4)
    clear u4 J3
    go_wp2_with (fail)
    refine (PL.out 40 w4 U4.out (by decide)).mono ?_
    rintro e w5 ⟨rfl, u5⟩
    have U5 := Lib.hid (U4.out.trans u5)
    clear u5 PL
    go_wp2_with (fail)
    have o6 := Ow.lit w5 [] zz.heap.size U5.out.size (by simp)
    have U6' := U5.out.alloc (.cells (nums .u32 []) 36)
    generalize hW : World.alloc w5 _ = w6
    have hW2 : w5.alloc (.cells (nums .u32 []) 36) = w6 := hW
    rw [hW2] at o6 U6'
    have g5 := U5.out.size
    generalize w5.heap.size = b5 at *
    have O6 := Lib.hid o6
    have U6 := Lib.hid U6'
    clear hW hW2 o6 U6'
    refine (R3.out 40 w6 U6.out (by decide)).mono ?_
    rintro e w7 ⟨B7, c7, l7, rfl, O7, hx7, hl7, u7⟩
    have O67 := Lib.hid (O6.out.upd u7 (fun g hg => by simp at hg))
    have U7 := Lib.hid (U6.out.trans u7)
    have N7 := Lib.hid O7.nat
    have HX7 := Lib.hid hx7
    clear O6 O7 u7 hx7
    go_wp2_with (first | go_skip | ((with_reducible refine at_op 28 ?_); refine L_app2 (.tmp 25) (.tmp 27) rfl (by kernel_rfl) zz.heap.size _ [] rfl O67.out B7 l7.length c7 l7 rfl rfl N7.out (by simp; omega) U7.out.size ?_))
    intro v8 w8 o8 u8 hb8
    have U8 := Lib.hid (U7.out.then u8 (fun x hx hlt => by simp [Value.ownBlock] at hx; omega))
    have O8 := Lib.hid o8
    clear u8 hb8 o8 O67 N7
    go_wp2_with (first | go_skip | ((with_reducible refine at_op 30 ?_); refine L_app (.tmp 28) (.tmp 29) rfl (by kernel_rfl) zz.heap.size v8 l7 rfl O8.out A2 m2 c2 R rfl HM.out (HR.out _ U8.out) (by have := HM.out; simp; omega) U8.out.size ?_))
    intro v9 w9 o9 u9
    have U9 := Lib.hid (U8.out.then u9 (fun x hx hlt => by have := O8.out.lt x hx; omega))
    have hx9 : ∀ x ∈ l7 ++ R, x < 2 ^ 32 := fun x hx => by
      rcases List.mem_append.1 hx with h | h
      · exact HX7.out x h
      · exact HS.out x h
    obtain ⟨P9, hP9⟩ : ∃ P9, P9 = l7 ++ R := ⟨_, rfl⟩
    rw [← hP9] at o9 hx9
    clear hP9
    obtain ⟨A9, c9, rfl, _, _, N9, _⟩ := o9.words
    obtain ⟨m9, hm9⟩ : ∃ m9, m9 = P9.length := ⟨_, rfl⟩
    rw [← hm9]
    have Q9 := Lib.hid (play_any A9 P9 m9 c9 60 w9 hm9 N9 hx9 (by decide))
    clear o9 u9 N9 O8 HX7 hx9 hm9
    go_wp2_with (fail)
    refine Q9.out.mono ?_
    rintro e w10 ⟨rfl, u10⟩
    have U10 := Lib.hid (U9.out.trans u10)
    clear u10 Q9
    go_wp2_with (fail)
    refine (known_calls _).mono ?_
    rintro e w11 ⟨rfl, u11⟩
    have U11 := Lib.hid (U10.out.trans u11)
    clear u11
    go_wp2_with (fail)
    go_ret
    exact ⟨rfl, U11.out⟩
end Go.Proofs.YtggjmdgonjhioaaGreat

namespace Go.Proofs.YtggjmdgonjhioaaGreat.mplays
open Go.ChangeShapes Go.WideShapes Go.ChangeAt Go.RowKit Go.Dio
set_option linter.unusedVariables false
set_option linter.unusedSimpArgs false

theorem shape_lt {w : World} {b : Nat} {r : TypeId × Nat} (h : w.shape? b = some r) : b < w.heap.size := by
  rcases Nat.lt_or_ge b w.heap.size with h0 | h0
  · exact h0
  · have e : w.heap[b]? = none := by rw [Array.getElem?_eq_none_iff]; exact h0
    simp [World.shape?, e] at h
theorem okWide_lt {P : Program} {w : World} {r : Reach} {base len cap : Nat} {t e : TypeId} {A : Option Addr} (ht : P.underlying t = some (.slice e)) (h : Value.okWide P w r base t (.slice A len cap)) : ∀ b o s, A = some ⟨b, o, s⟩ → b < w.heap.size := fun b o s hA => by
  subst hA
  simp only [Value.okWide, ht, Cell.okWide, Cell.ok] at h
  obtain ⟨_, _, _, _, row, cells, hs, _⟩ := h
  exact shape_lt hs
theorem wf_range {l : List Int} (h : ∀ x ∈ l, (Lit.int .i64 x).wf = true) : ∀ x ∈ l, -9223372036854775808 ≤ x ∧ x ≤ 9223372036854775807 := fun x hx => by
  simpa [Lit.wf, IntKind.min, IntKind.max, IntKind.signed, IntKind.bits] using h x hx
set_option maxRecDepth 20000 in
theorem contract (H : Type) (enc : TypeId × Value → H) (W : World) (base : Nat) (args : Array Value) (ds gs : List (DataW H)) (before : List MemPlace)
    (hval : ∀ (j : Nat) t v, Tryz.f4.params[j]? = some t → args[j]? = some v → Value.okWide Tryz.prog W .any base t v)
    (hW : DataW.Whole enc Tryz.prog Tryz.f4.params.toList Rows.modelPlaysSpec.vars false W args.toList ds gs before) :
    Calls Tryz.prog 4 args W fun e W' => ∃ v, e = .returned v ∧ Rows.modelPlaysSpec.post enc Tryz.prog Tryz.f4 false true false false W args v W' := by
  have hW' := hW
  obtain ⟨p, q, hA0, hV, rfl, hfz, hnd⟩ := hW
  have hA : DataW.TrodAll enc Tryz.prog W 0 (fun _ => true) true Tryz.f4.params.toList args.toList ds p := hA0
  rw [Tryz.params4] at hA hval
  obtain ⟨v0, vs0, d0, ds0, p0, q0, hargs, rfl, rfl, h0, r0⟩ := trodAll_cons hA
  obtain ⟨v1, vs1, d1, ds1, p1, q1, rfl, rfl, rfl, h1, r1⟩ := trodAll_cons r0
  obtain ⟨v2, vs2, d2, ds2, p2, q2, rfl, rfl, rfl, h2, r2⟩ := trodAll_cons r1
  obtain ⟨rfl, rfl, rfl⟩ := trodAll_nil r2
  obtain rfl : args = #[v0, v1, v2] := by cases args; simp_all
  obtain ⟨rfl, rfl⟩ := trodVars_none hV
  obtain ⟨a0, len0, cap0, rfl⟩ := okWide_slice Tryz.underlying25 (hval 0 25 v0 rfl rfl)
  have lt0 := okWide_lt Tryz.underlying25 (hval 0 25 _ rfl rfl)
  obtain ⟨l0, n0, rfl, c0, m0, wf0, _⟩ := fr.open_ints' Tryz.underlying25 Tryz.underlying3 (by kernel_rfl) h0
  obtain ⟨a1, len1, cap1, rfl⟩ := okWide_slice Tryz.underlying23 (hval 1 23 v1 rfl rfl)
  obtain ⟨l1, n1, rfl, c1, m1, wf1, _⟩ := fr.open_nums rfl Tryz.underlying23 Tryz.underlying36 (by kernel_rfl) h1
  obtain ⟨a2, len2, cap2, rfl⟩ := okWide_slice Tryz.underlying25 (hval 2 25 v2 rfl rfl)
  have lt2 := okWide_lt Tryz.underlying25 (hval 2 25 _ rfl rfl)
  obtain ⟨l2, n2, rfl, c2, m2, wf2, _⟩ := fr.open_ints' Tryz.underlying25 Tryz.underlying3 (by kernel_rfl) h2
  refine (mplays_walk a0 a1 a2 l0 l2 l1 cap0 cap1 cap2 W n0 lt0 (by omega) (wf_range wf0) n1 (fr.small32 wf1) c1 m1 n2 lt2 (by omega) (wf_range wf2)).mono fun e W' ⟨he, bel⟩ => ?_
  subst he
  exact ⟨_, rfl, fr.post_true fr.laidOut (by kernel_rfl) rfl hW' bel.below 4 rfl Tryz.underlying4 rfl rfl rfl⟩

set_option maxRecDepth 100000 in
theorem lifted (os : Os) (started : os.Started) (H : Type) (enc : TypeId × Value → H) :
    ReturnsInHanded {} Tryz.checked os 4 .any (Rows.modelPlaysSpec.pre6 enc Tryz.prog Tryz.f4 Rows.modelPlaysRow.domain false) (Rows.modelPlaysSpec.post enc Tryz.prog Tryz.f4 false true false false) := by
  refine returnsInHanded_of_change (C := Tryz.checked) fr.own started (by kernel_rfl) Tryz.func4
    (ChangeSpec.witness6 (enc := enc) (C := Tryz.checked) false ⟨#[], #[.slice none 0 0, .slice none 0 0, .slice none 0 0], []⟩ 8 (by kernel_rfl) (by kernel_rfl) (by kernel_rfl) (by kernel_rfl)) ?_
  intro W base args ds gs before hval hW _ _
  exact contract H enc W base args ds gs before hval hW

theorem proved : Rows.ModelPlaysSaid :=
  OpenClaim.holds_of_wide 4 Tryz.f4 rfl rfl rfl rfl rfl rfl rfl ⟨rfl, rfl, rfl, rfl, rfl⟩ rfl rfl rfl rfl rfl (by kernel_rfl) Tryz.func4 (by kernel_rfl)
    (of_decide_eq_true (by kernel_rfl)) (by unfold Func.isWrapper; first | (rw [if_pos (by decide +kernel)]; kernel_rfl) | (rw [if_neg (by decide +kernel)]; exact ⟨rfl, rfl⟩))
    (fun os started H enc _ => lifted os started H enc)
#print axioms proved
end Go.Proofs.YtggjmdgonjhioaaGreat.mplays
