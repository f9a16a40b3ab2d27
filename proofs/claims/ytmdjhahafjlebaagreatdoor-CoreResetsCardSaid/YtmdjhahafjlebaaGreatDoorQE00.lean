/- Tapes: rows of instructions. -/
import Derived.Test.YtmdjhahafjlebaaGreatDoorQD51
import Derived.Test.YtmdjhahafjlebaaGreatDoorQD52
import Derived.Test.YtmdjhahafjlebaaGreatDoorQD48
import Derived.Test.YtmdjhahafjlebaaGreatDoorQD13
import Derived.Test.YtmdjhahafjlebaaGreatDoorQD12
import Derived.Test.YtmdjhahafjlebaaGreatDoorCards
import Derived.Test.YtmdjhahafjlebaaGreatDoorTie
import Derived.Test.YtmdjhahafjlebaaGreatDoorQD03
import Derived.Deep.DeepHandedRow
import Derived.Lib.LaidTab
import Derived.Deep.Slices
import Derived.Deep.Fields
import Derived.ChangeSame
import Derived.OpenShut
namespace Go.Proofs.YtmdjhahafjlebaaGreatDoor
open Go.RowKit Go.Dio
set_option linter.unusedSimpArgs false
set_option linter.unusedVariables false

theorem Image_calls (A : Option Addr) (L : List Int) (c : Nat) (w : World) (hA : IntsAt w A L) (hlt : ∀ b o s, A = some ⟨b, o, s⟩ → b < w.heap.size) (hsm : L.length ≤ 9223372036854775807)
    (hwf : ∀ x ∈ L, -9223372036854775808 ≤ x ∧ x ≤ 9223372036854775807) :
    Calls Tryz.prog 8 #[.slice A L.length c] w fun e w' => RowR 776 w e w' := by
  have I := Lib.hid (image_calls A L c 14 w hA hlt hsm hwf (by decide) (by decide))
  clear hA hlt hsm hwf
  generalize L.length = N at I ⊢
  go_enter Tryz.func8, Tryz.ntmps8
  go_wp2_with (fail)
  refine I.out.mono ?_
  rintro e w1 ⟨B, cap, l, rfl, O, hl, hK, U⟩
  go_wp2_with (fail)
  go_ret
  exact ⟨B, cap, l, rfl, O, hl, hK, U⟩

theorem IEnc_calls (i : InstV) (h : OkI i) (z : World) :
    Calls Tryz.prog 29 #[.agg i.arr] z fun e z' => ∃ (n : Nat) (b : Bool), n < 2 ^ 32 ∧ e = .returned (.tuple #[.int .u32 (n : Int), .bool b]) ∧ Upd [] z z' := by
  obtain ⟨op, rd, r1, r2, imm⟩ := i
  obtain ⟨h0, h1, h2, h3, h4⟩ := h
  dsimp only at h0 h1 h2 h3 h4
  obtain ⟨o, rfl⟩ : ∃ o, op = o + 1 := ⟨op - 1, by omega⟩
  refine (enc_calls o rd r1 r2 imm z (by omega) h2 h3 h4).mono ?_
  rintro e z' ⟨rfl, u⟩
  exact ⟨_, _, encP_lt (o + 1) rd r1 r2 imm (by omega) (by omega) h2 h3 h4, rfl, u⟩
set_option maxHeartbeats 8000000 in
theorem Raw_calls (A : Option Addr) (L : List Int) (c n : Nat) (w : World) (hA : IntsAt w A L) (hlt : ∀ b o s, A = some ⟨b, o, s⟩ → b < w.heap.size) (hsm : L.length ≤ 9223372036854775807)
    (hwf : ∀ x ∈ L, -9223372036854775808 ≤ x ∧ x ≤ 9223372036854775807) (hn : n ≤ 100) :
    Calls Tryz.prog 9 #[.slice A L.length c, .int .i64 (n : Int)] w fun e w' => RowR n w e w' := by
  have T0 : Hid (TapeAt w.heap.size A L c 0 (w.alloc (.cells #[.slice A L.length c, .int .i64 0] 63))) := Lib.hid ⟨hl1 _ _, hA.of_upd ((Upd.refl _ _).alloc _), hlt, by omega, hsm, hwf⟩
  have U0 := Lib.hid ((Upd.refl [] w).alloc (.cells #[.slice A L.length c, .int .i64 0] 63))
  clear hA hlt hsm hwf
  obtain ⟨N, hN⟩ : ∃ N, N = L.length := ⟨_, rfl⟩
  rw [← hN] at T0 U0 ⊢
  have HNL := Lib.hid hN
  clear hN
  go_enter Tryz.func9, Tryz.ntmps9
  go_upto_region 2 with (fail)
  obtain ⟨tb, htb⟩ : ∃ tb, tb = w.heap.size := ⟨_, rfl⟩
  rw [← htb] at T0 ⊢
  have hs1 : (w.alloc (.cells #[.slice A N c, .int .i64 0] 63)).heap.size = tb + 1 := by rw [htb]; simp
  generalize w.alloc (.cells #[.slice A N c, .int .i64 0] 63) = W1 at T0 U0 hs1 ⊢
  have HTB := Lib.hid htb
  clear htb
  have T1 : Hid (TapeAt tb A L c 0 W1) := T0
  clear T0
  go_wp2_with (fail)
  go_loopg [6, 7] n (fun g v6 v7 wl => ∃ (k : Nat) (B : Option Addr) (cap : Nat) (l : List Nat) (a m : Nat), v7 = .int .i64 (k : Int) ∧ k ≤ n ∧ g = n - k ∧ v6 = .slice B m cap ∧ m ≤ k ∧ Hid (l.length = m) ∧ Hid (Ow (tb + 1) wl (.slice B m cap) l) ∧ Hid (∀ y ∈ l, y < 2 ^ 32) ∧ Hid (TapeAt tb A L c a wl) ∧ Hid (Upd [] w wl))
  case atStart => exact ⟨0, none, 0, [], 0, 0, rfl, by omega, rfl, rfl, by omega, Lib.hid rfl, Lib.hid (World.ownsRow_nil _ _ _ _), Lib.hid (by simp), T1, U0⟩
  case round =>
    clear T1 U0
    obtain ⟨k, B, cap, l, a, m, rfl, hk, hg, rfl, hm, HN, OX, HL, TX, VX⟩ := hrel
    have c1 : wr.cell? ⟨tb, 1, none⟩ = some (.int .i64 (a : Int)) := by rw [cells_of TX.out.cell]; rfl
    by_cases hdone : k < n ∧ a < N
    · obtain ⟨hkn, haN⟩ := hdone
      have d1 : decide ((k : Int) < (n : Int)) = true := decide_eq_true (by omega)
      have d2 : decide ((a : Int) < (N : Int)) = true := decide_eq_true (by omega)
      go_wp2_with (fail)
      clear c1 d1 d2 haN
      refine (Next_calls _ _ _ _ _ 4 _ TX.out (by decide) (by decide)).mono ?_
      rintro e w2 ⟨r2, a2, hr2, rfl, T2, U2⟩
      have OY := Lib.hid (OX.out.upd U2 (fun g hg => by simp at hg; omega))
      have VY := Lib.hid (VX.out.then U2 (fun y hy hlt => by simp at hy; have := HTB.out; omega))
      have TY := Lib.hid T2
      clear OX TX VX U2 T2
      by_cases h0 : r2 = 0
      · subst h0
        go_wp2_with (fail)
        refine (Word_calls _ _ _ _ _ _ TY.out).mono ?_
        rintro e w3 ⟨x, a3, hx, rfl, T3, U3⟩
        have OX := Lib.hid (OY.out.upd U3 (fun g hg => by simp at hg; omega))
        have VX := Lib.hid (VY.out.then U3 (fun y hy hlt => by simp at hy; have := HTB.out; omega))
        have TX := Lib.hid T3
        clear OY TY VY U3 T3
        have VA := Lib.hid (VX.out.alloc (.cells (nums .u32 [x]) 36))
        have TA := Lib.hid (TX.out.upd ((Upd.refl [] w3).alloc (.cells (nums .u32 [x]) 36)) (fun g hg => by simp at hg))
        have OA := Lib.hid (OX.out.upd ((Upd.refl [] w3).alloc (.cells (nums .u32 [x]) 36)) (fun g hg => by simp at hg))
        have hsz := TA.out.tb_lt
        have HNN := HN.out
        subst HNN
        clear OX VX TX
        go_wp2_with (at_builtin; refine L_app (.tmp 30) (.tmp 33) rfl (by kernel_rfl) (tb + 1) _ l rfl OA.out _ _ _ [x] rfl rfl (numsAt_new w3 .u32 [x] 36) (by simp only [List.length_cons, List.length_nil]; omega) hsz ?_)
        intro v' w9 O9 u9
        have V9 := Lib.hid (VA.out.then u9 (fun g hg hlt => by have := OA.out.lt g hg; have := HTB.out; omega))
        have T9 := Lib.hid (TA.out.upd u9 (fun g hg => by have := OA.out.lt g hg; omega))
        have H9 := Lib.hid (lt_app HL.out (lt_cons (l := []) hx (by simp)))
        have hl9 : (l ++ [x]).length ≤ k + 1 := by rw [List.length_append]; simp only [List.length_cons, List.length_nil]; omega
        obtain ⟨B9, c9, rfl, hc1, hc2, hn9, hb9⟩ := O9.words
        have O9' := Lib.hid O9
        clear hc1 hc2 hn9 hb9 O9 u9 VA TA OA hsz HL hx
        generalize l ++ [x] = R2 at O9' H9 hl9 ⊢
        obtain ⟨n2, hn2⟩ : ∃ n2, n2 = R2.length := ⟨_, rfl⟩
        rw [← hn2] at O9' hl9 ⊢
        have HN2 := Lib.hid hn2.symm
        clear hn2
        go_wp2_with (fail)
        go_roundg (n - (k + 1))
        case measure => omega
        case rel => exact ⟨k + 1, B9, c9, R2, _, n2, by go_num, by omega, rfl, rfl, hl9, HN2, O9', H9, T9, V9⟩
      · have d0 : ((r2 : Int) == 0) = false := (cast_ne_b h0).1
        clear h0
        go_wp2_with (fail)
        refine (Inst_calls _ _ _ _ _ _ TY.out).mono ?_
        rintro e w3 ⟨i, a3, hi, rfl, T3, U3⟩
        go_wp2_with (fail)
        refine (IEnc_calls i hi _).mono ?_
        rintro e w4 ⟨x, b, hx, rfl, u4⟩
        have OX := Lib.hid ((OY.out.upd U3 (fun g hg => by simp at hg; omega)).upd u4 (fun g hg => by simp at hg))
        have VX := Lib.hid ((VY.out.then U3 (fun y hy hlt => by simp at hy; have := HTB.out; omega)).trans u4)
        have TX := Lib.hid (T3.upd u4 (fun g hg => by simp at hg))
        clear OY TY VY U3 T3 u4
        have VA := Lib.hid (VX.out.alloc (.cells (nums .u32 [x]) 36))
        have TA := Lib.hid (TX.out.upd ((Upd.refl [] w4).alloc (.cells (nums .u32 [x]) 36)) (fun g hg => by simp at hg))
        have OA := Lib.hid (OX.out.upd ((Upd.refl [] w4).alloc (.cells (nums .u32 [x]) 36)) (fun g hg => by simp at hg))
        have hsz := TA.out.tb_lt
        have HNN := HN.out
        subst HNN
        clear OX VX TX
        go_wp2_with (at_builtin; refine L_app (.tmp 41) (.tmp 43) rfl (by kernel_rfl) (tb + 1) _ l rfl OA.out _ _ _ [x] rfl rfl (numsAt_new w4 .u32 [x] 36) (by simp only [List.length_cons, List.length_nil]; omega) hsz ?_)
        intro v' w9 O9 u9
        have V9 := Lib.hid (VA.out.then u9 (fun g hg hlt => by have := OA.out.lt g hg; have := HTB.out; omega))
        have T9 := Lib.hid (TA.out.upd u9 (fun g hg => by have := OA.out.lt g hg; omega))
        have H9 := Lib.hid (lt_app HL.out (lt_cons (l := []) hx (by simp)))
        have hl9 : (l ++ [x]).length ≤ k + 1 := by rw [List.length_append]; simp only [List.length_cons, List.length_nil]; omega
        obtain ⟨B9, c9, rfl, hc1, hc2, hn9, hb9⟩ := O9.words
        have O9' := Lib.hid O9
        clear hc1 hc2 hn9 hb9 O9 u9 VA TA OA hsz HL hx
        generalize l ++ [x] = R2 at O9' H9 hl9 ⊢
        obtain ⟨n2, hn2⟩ : ∃ n2, n2 = R2.length := ⟨_, rfl⟩
        rw [← hn2] at O9' hl9 ⊢
        have HN2 := Lib.hid hn2.symm
        clear hn2
        go_wp2_with (fail)
        go_roundg (n - (k + 1))
        case measure => omega
        case rel => exact ⟨k + 1, B9, c9, R2, _, n2, by go_num, by omega, rfl, rfl, hl9, HN2, O9', H9, T9, V9⟩
    · have key : ∀ z : Bool, z = z := fun z => rfl
      clear key
      have hfin : RowR n w (.returned (.slice B m cap)) wr := by
        have h1 := HN.out
        subst h1
        exact ⟨B, cap, l, rfl, OX.out.mono (by have := HTB.out; omega), HL.out, by omega, VX.out⟩
      have HF := Lib.hid hfin
      clear hfin OX HL TX VX HN
      by_cases hkn : k < n
      · have d1 : decide ((k : Int) < (n : Int)) = true := decide_eq_true (by omega)
        have haN : N ≤ a := by omega
        have d2 : decide ((a : Int) < (N : Int)) = false := decide_eq_false (by omega)
        clear hdone
        go_wp2_with (fail)
        go_ret
        exact HF.out
      · have d1 : decide ((k : Int) < (n : Int)) = false := decide_eq_false (by omega)
        clear hdone
        go_wp2_with (fail)
        go_ret
        exact HF.out
end Go.Proofs.YtmdjhahafjlebaaGreatDoor

namespace Go.Proofs.YtmdjhahafjlebaaGreatDoor
open Go.RowKit Go.Dio
set_option linter.unusedSimpArgs false
set_option linter.unusedVariables false

theorem z32 : (List.replicate 32 0 : List Nat).tail.map enc = List.replicate 31 0 := by
  rw [show (List.replicate 32 0 : List Nat).tail = List.replicate 31 0 from rfl, enc_rep]
/-- Reset to zeros. -/
theorem CO.reset0 {zz w : World} {k : CoB} {s : CoS} (h : CO zz k s w) (p : Nat) (R C : List Nat) (g : Gd p R C) :
    Calls Tryz.prog 19 #[.pointer (some ⟨k.cb, 0, none⟩), .int .u32 (p : Int), .agg (nums .u32 R), .agg (nums .u32 C)] w fun e z' => e = .returned (.tuple #[]) ∧ CO zz k (gold p R C z4 s.ff s.fa s.cf s.ca) z' ∧ Upd k.fp w z' :=
  (Reset_calls k s p R C w h.core g.pc g.len g.clen g.rlt g.clt).mono fun e z' ⟨h1, h2⟩ => ⟨h1, h.cor h2, h2.upd⟩
/-- A cycle from a beginning is not sick. -/
theorem first_ok {p : Nat} {R C m : List Nat} (g : Gd p R C) (ff fa cf ca : Nat) (ha : fa < 31) (hc : ca < 6) : (coCycle memoLd (gold p R C z4 ff fa cf ca) m).2.1 ≤ 1 := by
  cases hb : (fetchP p).2
  · rw [gold_fetch g ff fa cf ca hb ha hc]; exact Nat.zero_le _
  · rw [gold_trap g ff fa cf ca hb ha hc]; exact Nat.le_refl _
theorem flip_f (s : CoS) (c : Int) : (s.flip c).ff = s.ff ∧ (s.flip c).cf = s.cf := by
  unfold CoS.flip
  split
  · exact ⟨rfl, rfl⟩
  split
  · exact ⟨rfl, rfl⟩
  split <;> exact ⟨rfl, rfl⟩
theorem Short_calls (A : Option Addr) (L : List Int) (c : Nat) (w : World) (hA : IntsAt w A L) (hlt : ∀ b o s, A = some ⟨b, o, s⟩ → b < w.heap.size) (hsm : L.length ≤ 9223372036854775807)
    (hwf : ∀ x ∈ L, -9223372036854775808 ≤ x ∧ x ≤ 9223372036854775807) :
    Calls Tryz.prog 17 #[.slice A L.length c] w fun e w' => RowR 776 w e w' := by
  have I := Lib.hid (image_calls A L c 5 w hA hlt hsm hwf (by decide) (by decide))
  clear hA hlt hsm hwf
  generalize L.length = N at I ⊢
  go_enter Tryz.func17, Tryz.ntmps17
  go_wp2_with (fail)
  refine I.out.mono ?_
  rintro e w1 ⟨B, cap, l, rfl, O, hl, hK, U⟩
  go_wp2_with (fail)
  go_ret
  exact ⟨B, cap, l, rfl, O, hl, hK, U⟩
theorem ints_upd {w w' : World} {S : List Nat} {A : Option Addr} {l : List Int} (h : IntsAt w A l) (u : Upd S w w') (hS : ∀ b o s, A = some ⟨b, o, s⟩ → b ∉ S) : IntsAt w' A l := fun h0 => by
  obtain ⟨b, o, hA, hb, hc⟩ := h h0
  exact ⟨b, o, hA, Nat.lt_of_lt_of_le hb u.size, fun i hi => by rw [← hc i hi]; exact World.cell?_of_block (w := w) (u.block b hb (hS b o none hA))⟩
end Go.Proofs.YtmdjhahafjlebaaGreatDoor

namespace Go.Proofs.YtmdjhahafjlebaaGreatDoor.dfr
open Go.ChangeShapes Go.WideShapes Go.ChangeAt Go.RowKit Go.Dio

theorem gTab : Tryz.prog.globalNamed "math/bits.deBruijn64tab" = some 0 := by kernel_rfl
theorem gTabType : (Tryz.prog.globals[0]?).map (·.type) = some 170 := by kernel_rfl
theorem cellsTab : Tryz.prog.cellsOf 170 = 64 := by kernel_rfl
theorem cellsOne : Tryz.prog.cellsOf 5 = 1 := by kernel_rfl

theorem table {W : World} (h : laidMetH Tryz.prog [("math/bits.deBruijn64tab", Rows.laid_math_bits_deBruijn64tab)] W) : Tz W := fun j hj => by
  have ht : Lib.TabIs Tryz.prog W "math/bits.deBruijn64tab" .u8 (Lib.deBruijn64tab.map Int.ofNat) :=
    Lib.tabIs_of_head (rest := []) gTab gTabType Tryz.underlying170 Tryz.underlying5 cellsOne cellsTab h
  have hc := ht.cell gTab j (by rw [List.length_map]; exact hj)
  rw [hc]
  have hl : j < Lib.deBruijn64tab.length := hj
  simp [List.getD, hl]

noncomputable def laidWorld (os : Os) : World :=
  { World.holding Tryz.prog os ⟨#[], #[], []⟩ with heap := (World.holding Tryz.prog os ⟨#[], #[], []⟩).heap.modify 0 fun
      | .cells _ t frozen => .cells (nums .u8 Lib.deBruijn64tab) t frozen
      | o => o }

theorem nat_u32 {x : Int} (h : (Lit.int .u32 x).wf = true) : ∃ n : Nat, x = (n : Int) ∧ n < 2 ^ 32 := by
  have hx : 0 ≤ x ∧ x ≤ 4294967295 := by simpa [Lit.wf, IntKind.min, IntKind.max, IntKind.signed, IntKind.bits] using h
  exact ⟨x.toNat, by omega, by omega⟩
theorem nat_u64 {x : Int} (h : (Lit.int .u64 x).wf = true) : ∃ n : Nat, x = (n : Int) ∧ n < 2 ^ 64 := by
  have hx : 0 ≤ x ∧ x ≤ 18446744073709551615 := by simpa [Lit.wf, IntKind.min, IntKind.max, IntKind.signed, IntKind.bits] using h
  exact ⟨x.toNat, by omega, by omega⟩
end Go.Proofs.YtmdjhahafjlebaaGreatDoor.dfr

namespace Go.Proofs.YtmdjhahafjlebaaGreatDoor.fr
open Go.ChangeShapes Go.WideShapes Go.ChangeAt Go.RowKit Go.Dio

theorem bulk_len {H : Type} (l : List (DataW H)) : l.length ≤ Rows.uptoBulkAll l := by
  induction l with
  | nil => simp [Rows.uptoBulkAll]
  | cons x r ih =>
    have : 1 ≤ Rows.uptoBulk x := by
      cases x with
      | lit l => cases l <;> simp [Rows.uptoBulk]
      | _ => simp [Rows.uptoBulk]
    simp only [Rows.uptoBulkAll, List.length_cons]; omega

theorem open_structs {H : Type} {enc : TypeId × Value → H} {P : Program} {t e : TypeId} {fs : Array Field} {W : World} {a : Option Addr} {len cap : Nat} {d : DataW H} {ps : List MemPlace} (ht : P.underlying t = some (.slice e)) (he : P.underlying e = some (.struct fs))
    (hone : ∀ (j : Nat) (f : Field), fs[j]? = some f → f.offset = j ∧ P.cellsOf f.type = 1) (hC : P.cellsOf e = fs.size) (hpos : 0 < fs.size)
    (h : DataW.Trod enc P W 0 (fun _ => true) true t (.slice a len cap) d ps) :
    len ≤ cap ∧ cap ≤ 9223372036854775807 ∧ len + 1 ≤ Rows.uptoBulk d ∧
    (0 < len → ∃ b o, a = some ⟨b, o, none⟩ ∧ b < W.heap.size ∧ ∀ i, i < len → ∀ (j : Nat) (f : Field), fs[j]? = some f →
      ∃ (v : Value) (y : DataW H × List MemPlace) (n : Nat), W.cell? ⟨b, o + (i * fs.size + j), none⟩ = some v ∧ DataW.trod enc P W 0 (fun _ => true) true n f.type [v] = some y) := by
  obtain ⟨fuel, hf⟩ := h
  rcases DataW.trod_slice ht hf with ⟨hcs, hx⟩ | ⟨x, l, c, elems, rest, n, _, hcs, hx, _, hl, hm, hlen, hel, _, _⟩
  · simp [Value.cells] at hcs
    obtain ⟨rfl, rfl, rfl⟩ := hcs
    obtain rfl : d = .nil := congrArg Prod.fst hx
    exact ⟨by omega, by omega, by simp [Rows.uptoBulk], fun h => absurd h (by omega)⟩
  · simp [Value.cells] at hcs
    obtain ⟨rfl, rfl, rfl⟩ := hcs
    obtain rfl : d = .slice (elems.map (·.1)) (rest.map (·.1)) := congrArg Prod.fst hx
    refine ⟨hl, by simpa [maxLen] using hm, ?_, fun h0 => ?_⟩
    · have := bulk_len (elems.map (·.1))
      rw [List.length_map] at this
      simp only [Rows.uptoBulk]
      omega
    · have cell : ∀ i, i < len → ∀ (j : Nat) (f : Field), fs[j]? = some f →
          ∃ (v : Value) (y : DataW H × List MemPlace) (n : Nat), W.cell? ((x.add (i * fs.size)).add j) = some v ∧ DataW.trod enc P W 0 (fun _ => true) true n f.type [v] = some y := fun i hi j f hj => by
        have h1 := hel i hi
        rw [hC] at h1
        have h2 : elems[i]? = some (elems[i]'(by omega)) := List.getElem?_eq_getElem (by omega)
        rw [h2] at h1
        obtain ⟨cs, hc, h3⟩ := Option.bind_eq_some_iff.1 h1
        obtain ⟨ys, m, _, _, hlc, hly, hg⟩ := DataW.trod_struct he h3
        obtain ⟨_, hcl, hat⟩ := World.cells?_some hc
        obtain ⟨ho, hk⟩ := hone j f hj
        have hjl : j < fs.size := (Array.getElem?_eq_some_iff.1 hj).1
        have h4 := hg j f hj
        have hjc : j < cs.length := by omega
        have hone' : (cs.drop j).take 1 = [cs[j]] := by rw [List.drop_eq_getElem_cons hjc]; rfl
        rw [ho, hk, hone', List.getElem?_eq_getElem (by omega)] at h4
        exact ⟨cs[j], _, m, by rw [hat j hjl]; exact List.getElem?_eq_getElem hjc, h4⟩
      obtain ⟨b, o, s⟩ := x
      obtain ⟨f0, hf0⟩ : ∃ f, fs[0]? = some f := ⟨fs[0], Array.getElem?_eq_getElem hpos⟩
      obtain ⟨v0, y0, n0, hv0, _⟩ := cell 0 h0 0 f0 hf0
      have hspot : s = none := by simpa [Addr.add] using World.cell?_spot hv0
      subst hspot
      refine ⟨b, o, rfl, by simpa [Addr.add] using cell_lt hv0, fun i hi j f hj => ?_⟩
      obtain ⟨v, y, m, hv, hy⟩ := cell i hi j f hj
      refine ⟨v, y, m, ?_, hy⟩
      rw [Addr.add_mid, Addr.add_mid] at hv
      rw [← hv, Nat.add_assoc]
end Go.Proofs.YtmdjhahafjlebaaGreatDoor.fr

namespace Go.Proofs.YtmdjhahafjlebaaGreatDoor.fr
open Go.ChangeShapes Go.WideShapes Go.ChangeAt Go.RowKit Go.Dio

theorem agg_of {P : Program} {W : World} {t : TypeId} {v : Value} {d : TypeDesc} (ht : P.underlying t = some d) (hd : d.isRow = true) (h : Value.okWide P W .any 0 t v) : ∃ cs : Array Value, v = .agg cs := by
  unfold Value.okWide at h
  rw [ht] at h
  cases d <;> simp [TypeDesc.isRow] at hd <;> exact ⟨h.choose, h.choose_spec.1⟩
theorem bulk_mem {H : Type} {x : DataW H} : ∀ {l : List (DataW H)}, x ∈ l → Rows.uptoBulk x ≤ Rows.uptoBulkAll l
  | [], h => by simp at h
  | y :: l, h => by
    simp only [Rows.uptoBulkAll]
    rcases List.mem_cons.1 h with rfl | h
    · omega
    · have := bulk_mem h; omega
theorem bulk_agg {H : Type} {x : DataW H} {l : List (DataW H)} (h : x ∈ l) : Rows.uptoBulk x ≤ Rows.uptoBulk (.agg l) := by
  have := bulk_mem h
  simp only [Rows.uptoBulk]
  omega

/-- An array of whole numbers. -/
theorem open_arr {H : Type} {enc : TypeId × Value → H} {P : Program} {W : World} {base : Nat} {sp : Nat → Bool} {held : Bool} {fuel n : Nat} {t e : TypeId} {k : IntKind} {cs : List Value} {x : DataW H × List MemPlace} (hk : k.signed = false)
    (ht : P.underlying t = some (.array n e)) (he : P.underlying e = some (.int k)) (hc : P.cellsOf e = 1) (hC : P.cellsOf t = n) (h : DataW.trod enc P W base sp held fuel t cs = some x) :
    ∃ l : List Nat, cs = l.map (fun (m : Nat) => Value.int k (m : Int)) ∧ l.length = n ∧ ∀ m ∈ l, (Lit.int k (m : Int)).wf = true := by
  obtain ⟨xs, m, _, _, hl, hn, hg⟩ := DataW.trod_array ht h
  rw [hC] at hl
  have each : ∀ i, i < n → ∃ z : Int, cs[i]? = some (.int k z) ∧ (Lit.int k z).wf = true := fun i hi => by
    have h1 := hg i hi
    rw [hc, Nat.mul_one, List.getElem?_eq_getElem (by omega)] at h1
    obtain ⟨z, hz, _, hw⟩ := DataW.trod_int he h1
    refine ⟨z, ?_, hw⟩
    have h2 : cs.drop i = cs[i] :: cs.drop (i + 1) := List.drop_eq_getElem_cons (by omega)
    rw [h2] at hz
    simp only [List.take_succ_cons, List.take_zero, List.cons.injEq, and_true] at hz
    rw [List.getElem?_eq_getElem (by omega), hz]
  have hnn : ∀ z : Int, (Lit.int k z).wf = true → ((z.toNat : Nat) : Int) = z := fun z hw => by
    have h0 : 0 ≤ z := by
      simp only [Lit.wf, IntKind.min, hk, Bool.and_eq_true, decide_eq_true_eq] at hw
      simpa using hw.1
    exact Int.toNat_of_nonneg h0
  let g : Nat → Int := fun i => if hi : i < n then (each i hi).choose else 0
  have hg2 : ∀ i (hi : i < n), cs[i]? = some (.int k (g i)) ∧ (Lit.int k (g i)).wf = true := fun i hi => by
    simp only [g, hi, dif_pos]
    exact (each i hi).choose_spec
  refine ⟨(List.range n).map fun i => (g i).toNat, ?_, by simp, fun m hm => ?_⟩
  · refine List.ext_getElem (by simp [hl]) fun i h1 h2 => ?_
    have hi : i < n := by omega
    have h3 := (hg2 i hi).1
    rw [List.getElem?_eq_getElem h1] at h3
    simp only [List.map_map, List.getElem_map, List.getElem_range, Function.comp]
    rw [hnn _ (hg2 i hi).2]
    exact Option.some.inj h3
  · simp only [List.mem_map, List.mem_range] at hm
    obtain ⟨i, hi, rfl⟩ := hm
    rw [hnn _ (hg2 i hi).2]
    exact (hg2 i hi).2
/-- A slice, as a cell. -/
theorem open_cell_slice {H : Type} {enc : TypeId × Value → H} {P : Program} {W : World} {base : Nat} {sp : Nat → Bool} {held : Bool} {fuel : Nat} {t e : TypeId} {v : Value} {x : DataW H × List MemPlace}
    (ht : P.underlying t = some (.slice e)) (h : DataW.trod enc P W base sp held fuel t [v] = some x) : ∃ a len cap, v = .slice a len cap := by
  rcases DataW.trod_slice ht h with ⟨hcs, _⟩ | ⟨x, l, c, _, _, _, _, hcs, _⟩
  · exact ⟨none, 0, 0, by simpa using hcs⟩
  · exact ⟨some x, l, c, by simpa using hcs⟩
theorem lt32 {m : Nat} (h : (Lit.int .u32 (m : Int)).wf = true) : m < 2 ^ 32 := by
  have h : 0 ≤ (m : Int) ∧ (m : Int) ≤ 4294967295 := by simpa [Lit.wf, IntKind.min, IntKind.max, IntKind.signed, IntKind.bits] using h
  omega
theorem u32_nat {z : Int} (h : (Lit.int .u32 z).wf = true) : ∃ m : Nat, z = (m : Int) ∧ m < 2 ^ 32 := by
  have h : 0 ≤ z ∧ z ≤ 4294967295 := by simpa [Lit.wf, IntKind.min, IntKind.max, IntKind.signed, IntKind.bits] using h
  exact ⟨z.toNat, by omega, by omega⟩
theorem i64_wf {z : Int} (h : (Lit.int .i64 z).wf = true) : -9223372036854775808 ≤ z ∧ z ≤ 9223372036854775807 := by
  simpa [Lit.wf, IntKind.min, IntKind.max, IntKind.signed, IntKind.bits] using h
end Go.Proofs.YtmdjhahafjlebaaGreatDoor.fr

namespace Go.Proofs.YtmdjhahafjlebaaGreatDoor
open Go.ChangeShapes Go.WideShapes Go.ChangeAt Go.RowKit Go.Dio
set_option linter.unusedVariables false
set_option linter.unusedSimpArgs false
set_option maxRecDepth 100000

theorem agg_nums {cs : Array Value} {l : List Nat} (e : cs.toList = l.map (fun (m : Nat) => Value.int .u32 (m : Int))) : Value.agg cs = .agg (nums .u32 l) := by
  congr 1
  apply Array.ext'
  rw [e]
  simp [nums]
theorem open_a32 {H : Type} {enc : TypeId × Value → H} {W : World} {v : Value} {d : DataW H} {ps : List MemPlace} (hv : Value.okWide Tryz.prog W .any 0 41 v)
    (h : DataW.Trod enc Tryz.prog W 0 (fun _ => true) true 41 v d ps) : ∃ l : List Nat, v = .agg (nums .u32 l) ∧ l.length = 32 ∧ ∀ x ∈ l, x < 2 ^ 32 := by
  obtain ⟨cs, rfl⟩ := fr.agg_of Tryz.underlying41 rfl hv
  obtain ⟨fuel, hf⟩ := h
  obtain ⟨l, e, hl, hw⟩ := fr.open_arr rfl Tryz.underlying41 Tryz.underlying36 (by kernel_rfl) (by kernel_rfl) hf
  exact ⟨l, agg_nums e, hl, fr.small32 hw⟩
theorem open_a5 {H : Type} {enc : TypeId × Value → H} {W : World} {v : Value} {d : DataW H} {ps : List MemPlace} (hv : Value.okWide Tryz.prog W .any 0 42 v)
    (h : DataW.Trod enc Tryz.prog W 0 (fun _ => true) true 42 v d ps) : ∃ l : List Nat, v = .agg (nums .u32 l) ∧ l.length = 5 ∧ ∀ x ∈ l, x < 2 ^ 32 := by
  obtain ⟨cs, rfl⟩ := fr.agg_of Tryz.underlying42 rfl hv
  obtain ⟨fuel, hf⟩ := h
  obtain ⟨l, e, hl, hw⟩ := fr.open_arr rfl Tryz.underlying42 Tryz.underlying36 (by kernel_rfl) (by kernel_rfl) hf
  exact ⟨l, agg_nums e, hl, fr.small32 hw⟩
end Go.Proofs.YtmdjhahafjlebaaGreatDoor

namespace Go.Proofs.YtmdjhahafjlebaaGreatDoor
open Go.RowKit Go.Dio
set_option linter.unusedSimpArgs false
set_option linter.unusedVariables false

theorem Gd.reset {p : Nat} {R C : List Nat} (hp : p < 2 ^ 32) (hR : R.length = 32) (hC : C.length = 5) (hRl : ∀ x ∈ R, x < 2 ^ 32) (hCl : ∀ x ∈ C, x < 2 ^ 32) : Gd p (R.set 0 0) C :=
  ⟨hp, by simpa using hR, nth_set_eq (by omega), set_lt hRl (by decide), hC, hCl⟩
theorem CO.fr {zz w w' : World} {k : CoB} {s : CoS} {x : Nat} (h : CO zz k s w) (u : Upd [x] w w') (hx : x ∉ k.fp) (ht : 0 < zz.heap.size) (hz : zz.heap.size ≤ x := by exact Nat.le_refl _) : CO zz k s w' :=
  ⟨h.core.upd u (fun y hy hm => by simp at hm; subst hm; exact hx hy) (fun hm => by simp at hm; omega), h.upd.then u (fun y hy hlt => by simp at hy; omega), h.own⟩
set_option maxRecDepth 20000 in
set_option maxHeartbeats 16000000 in
theorem resets18 (A A2 : Option Addr) (L L2 : List Int) (p : Nat) (R C : List Nat) (c c2 : Nat) (zz : World) (hT : Tz zz) (hA : IntsAt zz A L) (hlt : ∀ b o s, A = some ⟨b, o, s⟩ → b < zz.heap.size) (hsm : L.length ≤ 9223372036854775807)
    (hwf : ∀ x ∈ L, -9223372036854775808 ≤ x ∧ x ≤ 9223372036854775807) (hp : p < 2 ^ 32) (hR : R.length = 32) (hC : C.length = 5) (hRl : ∀ x ∈ R, x < 2 ^ 32) (hCl : ∀ x ∈ C, x < 2 ^ 32)
    (hA2 : IntsAt zz A2 L2) (hsm2 : L2.length ≤ 9223372036854775807) (hwf2 : ∀ x ∈ L2, -9223372036854775808 ≤ x ∧ x ≤ 9223372036854775807) :
    Calls Tryz.prog 5 #[.slice A L.length c, .int .u32 (p : Int), .agg (nums .u32 R), .agg (nums .u32 C), .slice A2 L2.length c2] zz fun e z' => e = .returned (.bool true) ∧ Upd [] zz z' := by
  have NW := Lib.hid (fun w (u : Upd [] zz w) => CO.new zz w u (hT.of_upd u (by simp)))
  have KN := Lib.hid (fun w (u : Upd [] zz w) => known18 w (hT.of_upd u (by simp)))
  have I := Lib.hid (fun w1 (u : Upd [] zz w1) => Short_calls A L c w1 (hA.of_upd u) (fun b o s h => Nat.lt_of_lt_of_le (hlt b o s h) u.size) hsm hwf)
  have X2 := Lib.hid hA2
  have W2 : Hid (∀ i, i < L2.length → -9223372036854775808 ≤ nthZ L2 i ∧ nthZ L2 i ≤ 9223372036854775807) := Lib.hid (fun i hi => hwf2 _ (by unfold nthZ; rw [show L2.getD i 0 = L2[i] by simp [List.getD, hi]]; exact List.getElem_mem _))
  have GR := Lib.hid (Gd.reset hp hR hC hRl hCl)
  have HTL := Lib.hid hT.lt
  have HLR := Lib.hid hR
  have HLC := Lib.hid hC
  generalize L.length = N at I ⊢
  obtain ⟨N2, hN2⟩ : ∃ N2, N2 = L2.length := ⟨_, rfl⟩
  rw [← hN2] at W2 hsm2 ⊢
  have HN2 := Lib.hid hN2
  clear hT hA hlt hsm hwf hA2 hwf2 hN2 hRl hCl
  go_enter Tryz.func5, Tryz.ntmps5
  go_upto_region 1 with (fail)
  generalize hW : World.alloc (World.alloc zz _) _ = z0
  have B7 : Hid (z0.heap[zz.heap.size]? = some (.cells (nums .u32 R) 41 (0, 0))) := Lib.hid (by rw [← hW]; exact heap_old (Go.heap_alloc_last zz _) _)
  have B8 : Hid (z0.heap[zz.heap.size + 1]? = some (.cells (nums .u32 C) 42 (0, 0))) := Lib.hid (by rw [← hW]; exact heap2 zz _ _)
  have U0 : Hid (Upd [] zz z0) := Lib.hid (by rw [← hW]; exact ((Upd.refl _ _).alloc _).alloc _)
  clear hW
  go_wp2_with (fail)
  refine (NW.out _ U0.out).mono ?_
  rintro e w1 ⟨k, rfl, c1, u1, ho1⟩
  have C1 := Lib.hid c1
  have hz0 : zz.heap.size + 1 < z0.heap.size := lt_of_block B8.out
  have KO := Lib.hid (fun x hx => Nat.lt_of_lt_of_le hz0 (ho1 x hx))
  have B71 := Lib.hid (u1.keep B7.out (by simp))
  have B81 := Lib.hid (u1.keep B8.out (by simp))
  clear c1 u1 ho1 NW B7 B8 U0
  go_wp2_with (fail)
  refine (I.out _ C1.out.upd).mono ?_
  rintro e w3 ⟨B3, cap3, l3, rfl, O3, hx3, hl3, u3⟩
  have C3 := Lib.hid (C1.out.near u3)
  have B73 := Lib.hid (u3.keep B71.out (by simp))
  have B83 := Lib.hid (u3.keep B81.out (by simp))
  have ME := Lib.hid (MO.new C3.out B3 l3 l3.length cap3 rfl O3.nat (by omega) hx3)
  clear O3 hx3 u3 I C1 B71 B81
  generalize l3.length = n3 at *
  go_wp2_with (fail)
  refine ME.out.mono ?_
  rintro e w4 ⟨mb, rfl, c4, m4, u4⟩
  have UA := (Upd.refl [] w4).alloc (.cells #[.slice (some ⟨mb, 0, none⟩) 1024 1024] 33)
  have MB := Lib.hid (Go.heap_alloc_last w4 (.cells #[.slice (some ⟨mb, 0, none⟩) 1024 1024] 33))
  have HK := Lib.hid c4.core.lt
  have C5 := Lib.hid (c4.near UA)
  have M5 := Lib.hid (m4.near UA)
  have B75 := Lib.hid (UA.keep (u4.keep B73.out (by simp)) (by simp))
  have B85 := Lib.hid (UA.keep (u4.keep B83.out (by simp)) (by simp))
  clear UA c4 m4 u4 ME C3 B73 B83
  go_wp2_with (fail)
  generalize hW6 : w4.alloc (.cells #[.slice (some ⟨mb, 0, none⟩) 1024 1024] 33) = w6 at *
  clear hW6
  generalize w4.heap.size = b7 at *
  have P0 : Hid (∃ s m, CO zz k s w6 ∧ MO zz k mb m w6 ∧ s.ff ≤ 20 * 0 ∧ s.cf ≤ 20 * 0) := Lib.hid ⟨_, _, C5.out, M5.out, Nat.le_refl _, Nat.le_refl _⟩
  clear C5 M5
  go_loopw [13] (fun v13 wl => ∃ i : Nat, v13 = .int .i64 (i : Int) ∧ i ≤ 20 ∧ Hid (∃ s m, CO zz k s wl ∧ MO zz k mb m wl ∧ s.ff ≤ 20 * i ∧ s.cf ≤ 20 * i) ∧ Hid (wl.heap[b7]? = some (.cells #[.slice (some ⟨mb, 0, none⟩) 1024 1024] 33 (0, 0))) ∧ Hid (wl.heap[zz.heap.size]? = some (.cells (nums .u32 R) 41 (0, 0))) ∧ Hid (wl.heap[zz.heap.size + 1]? = some (.cells (nums .u32 C) 42 (0, 0)))) (fun v13 _ => 20 - (intOf v13).toNat)
  case atStart => exact ⟨0, rfl, by omega, P0, MB, B75, B85⟩
  case round =>
    obtain ⟨i, rfl, hi, HX, MBl, B7l, B8l⟩ := hrel
    clear P0 MB B75 B85
    obtain ⟨s, m, co, mo, hff, hcf⟩ := HX.out
    have CW := Lib.hid co
    have MW := Lib.hid mo
    have kz : zz.heap.size ∉ k.fp := fun hm => by have := KO.out _ hm; omega
    have kz1 : zz.heap.size + 1 ∉ k.fp := fun hm => by have := KO.out _ hm; omega
    clear HX co mo
    by_cases hgo : i < N2 ∧ i < 20
    · obtain ⟨hlt, h20⟩ := hgo
      have dl : decide ((i : Int) < (N2 : Int)) = true := decide_eq_true (by omega)
      have d20 : decide ((i : Int) < 20) = true := decide_eq_true (by omega)
      have hx := W2.out i hlt
      obtain ⟨b2, o2, hA2, hb2, hc2⟩ := X2.out (by rw [← HN2.out]; omega)
      subst hA2
      have CY := Lib.hid (CW.out.cycle MW.out (by omega) (by omega))
      have hcy := cyc_f memoLd s m
      generalize coCycle memoLd s m = X at *
      obtain ⟨r1, wh1, s2, m2⟩ := X
      dsimp only at CY hcy
      go_wp2_with (first
        | go_skip
        | ((with_reducible refine at_op 35 ?_); refine L_load 33 (.tmp 12) rfl (by kernel_rfl) _ _ rfl #[.slice (some ⟨mb, 0, none⟩) 1024 1024] (row_arr MBl.out) Tryz.underlying33 rfl 1 info_memo rfl ?_))
      refine CY.out.mono ?_
      rintro e w9 ⟨rfl, co9, mo9, u9⟩
      have C9 := Lib.hid co9
      have M9 := Lib.hid mo9
      have MB9 := Lib.hid (u9.keep MBl.out (fun hm => by have := HK.out _ hm; omega))
      have B79 := Lib.hid (u9.keep B7l.out kz)
      have B89 := Lib.hid (u9.keep B8l.out kz1)
      have nx : ∀ x : Near k.fp w9, x.1.cell? ⟨b2, o2 + i, none⟩ = some (.int .i64 (nthZ L2 i)) := fun x => by
        have u := C9.out.upd.then x.2 (fun y hy hlt => by have := C9.out.own y hy; omega)
        rw [World.cell?_of_block (w := zz) (u.block b2 hb2 (by simp))]; exact hc2 i (by rw [← HN2.out]; exact hlt)
      clear co9 mo9 u9 CW MW MBl B7l B8l CY hb2 hc2
      generalize nthZ L2 i = x at *
      have mx := max2_nat .i64 1574 0 1574 (by decide)
      have WI := Lib.hid (fun w => Within_calls x 0 1574 w (by decide) (by decide) (by decide) hx)
      have hy := within_range (n := x) (show (0 : Int) ≤ 1574 by decide)
      generalize within x 0 1574 = y at *
      have D9 : Upd [] w9 w9.drew := (Upd.refl _ _).drew
      have hf2 := flip_f s2 y
      have FL := Lib.hid (fun w (h : CO zz k s2 w) => CFlip_calls k s2 y w h.core (by omega) (by omega))
      go_wp2_with (fail)
      refine wp_region_plan (fun z => ∃ x : Near k.fp w9, z = x.1) [([0, 1, 2, 3, 4, 5], 6), ([7, 8], 9), ([], 10)] [] (by kernel_rfl) (by kernel_rfl) (by kernel_rfl) (by kernel_rfl) (fun _ d _ _ _ h => by cases d <;> exact h) ⟨⟨(w9).drew, (Upd.refl _ _).drew⟩, rfl⟩ ?_
      refine plan_next ?_
      simp only [opsAt, List.map_cons, List.map_nil, List.getElem?_toArray, List.getElem?_cons_zero, List.getElem?_cons_succ, Option.getD_some]
      repeat (go_big_quiet_step (fail))
      refine wpQuiet_nil ?_
      refine plan_one rfl ?_
      go_wp2_with fail
      refine (CBits_calls k s2 _ (C9.out.near D9).core).mono ?_
      rintro e wa ⟨rfl, ua⟩
      have DA := D9.trans ua
      go_wp2_with fail
      refine plan_same ⟨⟨_, (DA.mono (by simp))⟩, rfl⟩ ?_
      refine plan_next ?_
      simp only [opsAt, List.map_cons, List.map_nil, List.getElem?_toArray, List.getElem?_cons_zero, List.getElem?_cons_succ, Option.getD_some]
      repeat (go_big_quiet_step (fail))
      refine wpQuiet_nil ?_
      refine plan_one rfl ?_
      go_wp2_with fail
      refine (WI.out _).mono ?_
      rintro e wb ⟨rfl, rfl⟩
      go_wp2_with fail
      refine plan_same ⟨⟨_, (DA.mono (by simp))⟩, rfl⟩ ?_
      refine plan_next ?_
      simp only [opsAt, List.map_cons, List.map_nil, List.getElem?_toArray, List.getElem?_cons_zero, List.getElem?_cons_succ, Option.getD_some]
      repeat (go_big_quiet_step (fail))
      refine wpQuiet_nil ?_
      refine plan_one rfl ?_
      go_wp2_with fail
      refine (FL.out _ (C9.out.near DA)).mono ?_
      rintro e wc ⟨rfl, r⟩
      have C10 := Lib.hid ((C9.out.near DA).cor r)
      have M10 := Lib.hid ((M9.out.near DA).cor r)
      have UC := (DA.mono (T := k.fp) (by simp)).trans r.upd
      have MB10 := Lib.hid (UC.keep MB9.out (fun hm => by have := HK.out _ hm; omega))
      have B710 := Lib.hid (UC.keep B79.out kz)
      have B810 := Lib.hid (UC.keep B89.out kz1)
      clear nx r
      go_wp2_with fail
      refine plan_same ⟨⟨_, UC⟩, rfl⟩ ?_
      refine plan_last ?_
      simp only [opsAt, List.map_cons, List.map_nil, List.getElem?_toArray, List.getElem?_cons_zero, List.getElem?_cons_succ, Option.getD_some]
      repeat (go_big_quiet_step (fail))
      refine wpQuiet_nil ?_
      unfold planEnd
      go_wp2_with fail
      go_roundw
      case measure => simp [intOf]; omega
      case rel => exact ⟨i + 1, by go_num, by omega, Lib.hid ⟨_, _, C10.out, M10.out, by rw [hf2.1]; omega, by rw [hf2.2]; omega⟩, MB10, B710, B810⟩
    · by_cases hlt : i < N2
      · have dl : decide ((i : Int) < (N2 : Int)) = true := decide_eq_true (by omega)
        have d20 : decide ((i : Int) < 20) = false := decide_eq_false (by omega)
        have c70 : wr.cell? ⟨zz.heap.size, 0, none⟩ = some (.int .u32 ((nth R 0 : Nat) : Int)) := by rw [cells_of B7l.out]; exact nums_nth .u32 R 0 (by rw [HLR.out]; decide)
        have f70 : wr.frozen? ⟨zz.heap.size, 0, none⟩ = false := free_of B7l.out 0
        have UR : Upd [zz.heap.size] wr (wr.setCell ⟨zz.heap.size, 0, none⟩ (.int .u32 0)) := (Upd.refl [zz.heap.size] wr).setCell (p := ⟨zz.heap.size, 0, none⟩) (by simp) _
        have CR := Lib.hid (CW.out.fr UR kz HTL.out)
        have B7R : Hid ((wr.setCell ⟨zz.heap.size, 0, none⟩ (.int .u32 0)).heap[zz.heap.size]? = some (.cells (nums .u32 (R.set 0 0)) 41 (0, 0))) := Lib.hid (by
          rw [heap_setCell_eq B7l.out]
          exact congrArg (fun z => some (Obj.cells z 41 (0, 0))) (nums_set .u32 R 0 0))
        have B8R := Lib.hid (UR.keep B8l.out (by simp))
        generalize hWR : wr.setCell ⟨zz.heap.size, 0, none⟩ (.int .u32 0) = wR at *
        have HWR := Lib.hid hWR
        have LRS : (R.set 0 0).length = 32 := by rw [List.length_set]; exact HLR.out
        generalize R.set 0 0 = RS at *
        have RE := Lib.hid (CR.out.reset0 p RS C GR.out)
        clear hWR UR CW MW MBl B7l B8l
        go_upto_region 11 with (fail)
        rw [HWR.out]
        clear c70 f70
        go_wp2_with (first
          | go_skip
          | ((with_reducible refine at_op 52 ?_); refine L_load 41 (.tmp 7) rfl (by kernel_rfl) _ _ rfl (nums .u32 RS) (row_arr B7R.out) Tryz.underlying41 rfl 32 info_r32 (by rw [nums_size]; exact LRS) ?_)
          | ((with_reducible refine at_op 53 ?_); refine L_load 42 (.tmp 8) rfl (by kernel_rfl) _ _ rfl (nums .u32 C) (row_arr B8R.out) Tryz.underlying42 rfl 5 info_rc5 (by rw [nums_size]; exact HLC.out) ?_))
        refine RE.out.mono ?_
        rintro e wx ⟨rfl, cx, ux⟩
        have CX := Lib.hid cx
        have B7X := Lib.hid (ux.keep B7R.out kz)
        have B8X := Lib.hid (ux.keep B8R.out kz1)
        have ST := Lib.hid (CX.out.state GR.out)
        clear cx ux RE CR B7R B8R
        go_wp2_with (fail)
        refine ST.out.mono ?_
        rintro e wy ⟨rfl, uy⟩
        have CY := Lib.hid (CX.out.near uy)
        have B7Y := Lib.hid (uy.keep B7X.out (by simp))
        have B8Y := Lib.hid (uy.keep B8X.out (by simp))
        have LCC := HLC.out
        clear uy ST CX B7X B8X
        go_wp2_with (first
          | go_skip
          | ((with_reducible refine at_st 15 ?_); refine L_store_row 41 (.tmp 15) (.tmp 59) rfl (by kernel_rfl) (wy).heap.size 0 rfl (nums .u32 (List.replicate 32 0)).toList 41 (heap_old (Go.heap_alloc_last wy _) _) (nums .u32 RS) rfl 32 info_r32 (by rw [nums_size]; exact LRS) (Nat.le_refl _) (nums_one _ _) ?_))
        intro wA b2 u2 z2
        rw [spl_all (by first | rfl | (simp only [Array.length_toList, nums_size, List.length_replicate]; exact LRS))] at b2
        have A1 := Lib.hid b2
        have A2 : Hid (wA.heap[(wy).heap.size + 1]? = some (.cells (nums .u32 (List.replicate 5 0)).toList.toArray 42 (0, 0))) := Lib.hid (u2.keep (heap2 wy _ _) (by simp))
        have V2 := Lib.hid ((((Upd.refl [] wy).alloc _).alloc _).then u2 (fun x hx hlt => by simp at hx; omega))
        clear b2 u2 z2
        go_wp2_with (first
          | go_skip
          | ((with_reducible refine at_st 16 ?_); refine L_store_row 42 (.tmp 16) (.tmp 60) rfl (by kernel_rfl) ((wy).heap.size + 1) 0 rfl (nums .u32 (List.replicate 5 0)).toList 42 A2.out (nums .u32 C) rfl 5 info_rc5 (by rw [nums_size]; exact LCC) (Nat.le_refl _) (nums_one _ _) ?_))
        intro wz b3 u3 z3
        rw [spl_all (by first | rfl | (simp only [Array.length_toList, nums_size, List.length_replicate]; exact LCC))] at b3
        have T16 : Hid ((wz).heap[(wy).heap.size + 1]? = some (.cells (nums .u32 C) 42 (0, 0))) := Lib.hid (by simpa using b3)
        have T15 : Hid ((wz).heap[(wy).heap.size]? = some (.cells (nums .u32 RS) 41 (0, 0))) := Lib.hid (by simpa using u3.keep A1.out (by simp))
        have VZ := Lib.hid (V2.out.then u3 (fun x hx hlt => by simp at hx; omega))
        clear b3 u3 z3 A1 A2 V2
        have CZ := Lib.hid (CY.out.near VZ.out)
        have B7Z := Lib.hid (VZ.out.keep B7Y.out (by simp))
        have B8Z := Lib.hid (VZ.out.keep B8Y.out (by simp))
        clear VZ CY B7Y B8Y
        have qR : ∀ w, (binOp .eql 41 (.agg (nums .u32 RS)) (.agg (nums .u32 RS))).run Tryz.prog w = .ok (.bool true) w := fun w => by
          have h := run_eqR RS RS LRS LRS w
          rw [decide_eq_true rfl] at h
          exact h
        have qC : ∀ w, (binOp .eql 42 (.agg (nums .u32 C)) (.agg (nums .u32 C))).run Tryz.prog w = .ok (.bool true) w := fun w => by
          have h := run_eqC C C LCC LCC w
          rw [decide_eq_true rfl] at h
          exact h
        go_upto_region 13 with (fail)
        repeat (first
          | (refine at_op 69 ?_; refine L_load 41 (.tmp 15) rfl (by kernel_rfl) _ _ rfl (nums .u32 RS) (row_arr T15.out) Tryz.underlying41 rfl 32 info_r32 (by rw [nums_size]; exact LRS) ?_)
          | (refine at_op 70 ?_; refine L_load 41 (.tmp 7) rfl (by kernel_rfl) _ _ rfl (nums .u32 RS) (row_arr B7Z.out) Tryz.underlying41 rfl 32 info_r32 (by rw [nums_size]; exact LRS) ?_)
          | (refine at_op 74 ?_; refine L_load 42 (.tmp 16) rfl (by kernel_rfl) _ _ rfl (nums .u32 C) (row_arr T16.out) Tryz.underlying42 rfl 5 info_rc5 (by rw [nums_size]; exact LCC) ?_)
          | (refine at_op 75 ?_; refine L_load 42 (.tmp 8) rfl (by kernel_rfl) _ _ rfl (nums .u32 C) (row_arr B8Z.out) Tryz.underlying42 rfl 5 info_rc5 (by rw [nums_size]; exact LCC) ?_)
          | go_values | go_skip | go_guarded | go_step | go_upon)
        refine (KN.out _ CZ.out.upd).mono ?_
        rintro e wq ⟨rfl, uq⟩
        have UQ := Lib.hid (CZ.out.upd.trans uq)
        clear uq
        go_wp2_with (fail)
        go_ret
        exact ⟨rfl, UQ.out⟩
      · have dl : decide ((i : Int) < (N2 : Int)) = false := decide_eq_false (by omega)
        have c70 : wr.cell? ⟨zz.heap.size, 0, none⟩ = some (.int .u32 ((nth R 0 : Nat) : Int)) := by rw [cells_of B7l.out]; exact nums_nth .u32 R 0 (by rw [HLR.out]; decide)
        have f70 : wr.frozen? ⟨zz.heap.size, 0, none⟩ = false := free_of B7l.out 0
        have UR : Upd [zz.heap.size] wr (wr.setCell ⟨zz.heap.size, 0, none⟩ (.int .u32 0)) := (Upd.refl [zz.heap.size] wr).setCell (p := ⟨zz.heap.size, 0, none⟩) (by simp) _
        have CR := Lib.hid (CW.out.fr UR kz HTL.out)
        have B7R : Hid ((wr.setCell ⟨zz.heap.size, 0, none⟩ (.int .u32 0)).heap[zz.heap.size]? = some (.cells (nums .u32 (R.set 0 0)) 41 (0, 0))) := Lib.hid (by
          rw [heap_setCell_eq B7l.out]
          exact congrArg (fun z => some (Obj.cells z 41 (0, 0))) (nums_set .u32 R 0 0))
        have B8R := Lib.hid (UR.keep B8l.out (by simp))
        generalize hWR : wr.setCell ⟨zz.heap.size, 0, none⟩ (.int .u32 0) = wR at *
        have HWR := Lib.hid hWR
        have LRS : (R.set 0 0).length = 32 := by rw [List.length_set]; exact HLR.out
        generalize R.set 0 0 = RS at *
        have RE := Lib.hid (CR.out.reset0 p RS C GR.out)
        clear hWR UR CW MW MBl B7l B8l
        go_upto_region 11 with (fail)
        rw [HWR.out]
        clear c70 f70
        go_wp2_with (first
          | go_skip
          | ((with_reducible refine at_op 52 ?_); refine L_load 41 (.tmp 7) rfl (by kernel_rfl) _ _ rfl (nums .u32 RS) (row_arr B7R.out) Tryz.underlying41 rfl 32 info_r32 (by rw [nums_size]; exact LRS) ?_)
          | ((with_reducible refine at_op 53 ?_); refine L_load 42 (.tmp 8) rfl (by kernel_rfl) _ _ rfl (nums .u32 C) (row_arr B8R.out) Tryz.underlying42 rfl 5 info_rc5 (by rw [nums_size]; exact HLC.out) ?_))
        refine RE.out.mono ?_
        rintro e wx ⟨rfl, cx, ux⟩
        have CX := Lib.hid cx
        have B7X := Lib.hid (ux.keep B7R.out kz)
        have B8X := Lib.hid (ux.keep B8R.out kz1)
        have ST := Lib.hid (CX.out.state GR.out)
        clear cx ux RE CR B7R B8R
        go_wp2_with (fail)
        refine ST.out.mono ?_
        rintro e wy ⟨rfl, uy⟩
        have CY := Lib.hid (CX.out.near uy)
        have B7Y := Lib.hid (uy.keep B7X.out (by simp))
        have B8Y := Lib.hid (uy.keep B8X.out (by simp))
        have LCC := HLC.out
        clear uy ST CX B7X B8X
        go_wp2_with (first
          | go_skip
          | ((with_reducible refine at_st 15 ?_); refine L_store_row 41 (.tmp 15) (.tmp 59) rfl (by kernel_rfl) (wy).heap.size 0 rfl (nums .u32 (List.replicate 32 0)).toList 41 (heap_old (Go.heap_alloc_last wy _) _) (nums .u32 RS) rfl 32 info_r32 (by rw [nums_size]; exact LRS) (Nat.le_refl _) (nums_one _ _) ?_))
        intro wA b2 u2 z2
        rw [spl_all (by first | rfl | (simp only [Array.length_toList, nums_size, List.length_replicate]; exact LRS))] at b2
        have A1 := Lib.hid b2
        have A2 : Hid (wA.heap[(wy).heap.size + 1]? = some (.cells (nums .u32 (List.replicate 5 0)).toList.toArray 42 (0, 0))) := Lib.hid (u2.keep (heap2 wy _ _) (by simp))
        have V2 := Lib.hid ((((Upd.refl [] wy).alloc _).alloc _).then u2 (fun x hx hlt => by simp at hx; omega))
        clear b2 u2 z2
        go_wp2_with (first
          | go_skip
          | ((with_reducible refine at_st 16 ?_); refine L_store_row 42 (.tmp 16) (.tmp 60) rfl (by kernel_rfl) ((wy).heap.size + 1) 0 rfl (nums .u32 (List.replicate 5 0)).toList 42 A2.out (nums .u32 C) rfl 5 info_rc5 (by rw [nums_size]; exact LCC) (Nat.le_refl _) (nums_one _ _) ?_))
        intro wz b3 u3 z3
        rw [spl_all (by first | rfl | (simp only [Array.length_toList, nums_size, List.length_replicate]; exact LCC))] at b3
        have T16 : Hid ((wz).heap[(wy).heap.size + 1]? = some (.cells (nums .u32 C) 42 (0, 0))) := Lib.hid (by simpa using b3)
        have T15 : Hid ((wz).heap[(wy).heap.size]? = some (.cells (nums .u32 RS) 41 (0, 0))) := Lib.hid (by simpa using u3.keep A1.out (by simp))
        have VZ := Lib.hid (V2.out.then u3 (fun x hx hlt => by simp at hx; omega))
        clear b3 u3 z3 A1 A2 V2
        have CZ := Lib.hid (CY.out.near VZ.out)
        have B7Z := Lib.hid (VZ.out.keep B7Y.out (by simp))
        have B8Z := Lib.hid (VZ.out.keep B8Y.out (by simp))
        clear VZ CY B7Y B8Y
        have qR : ∀ w, (binOp .eql 41 (.agg (nums .u32 RS)) (.agg (nums .u32 RS))).run Tryz.prog w = .ok (.bool true) w := fun w => by
          have h := run_eqR RS RS LRS LRS w
          rw [decide_eq_true rfl] at h
          exact h
        have qC : ∀ w, (binOp .eql 42 (.agg (nums .u32 C)) (.agg (nums .u32 C))).run Tryz.prog w = .ok (.bool true) w := fun w => by
          have h := run_eqC C C LCC LCC w
          rw [decide_eq_true rfl] at h
          exact h
        go_upto_region 13 with (fail)
        repeat (first
          | (refine at_op 69 ?_; refine L_load 41 (.tmp 15) rfl (by kernel_rfl) _ _ rfl (nums .u32 RS) (row_arr T15.out) Tryz.underlying41 rfl 32 info_r32 (by rw [nums_size]; exact LRS) ?_)
          | (refine at_op 70 ?_; refine L_load 41 (.tmp 7) rfl (by kernel_rfl) _ _ rfl (nums .u32 RS) (row_arr B7Z.out) Tryz.underlying41 rfl 32 info_r32 (by rw [nums_size]; exact LRS) ?_)
          | (refine at_op 74 ?_; refine L_load 42 (.tmp 16) rfl (by kernel_rfl) _ _ rfl (nums .u32 C) (row_arr T16.out) Tryz.underlying42 rfl 5 info_rc5 (by rw [nums_size]; exact LCC) ?_)
          | (refine at_op 75 ?_; refine L_load 42 (.tmp 8) rfl (by kernel_rfl) _ _ rfl (nums .u32 C) (row_arr B8Z.out) Tryz.underlying42 rfl 5 info_rc5 (by rw [nums_size]; exact LCC) ?_)
          | go_values | go_skip | go_guarded | go_step | go_upon)
        refine (KN.out _ CZ.out.upd).mono ?_
        rintro e wq ⟨rfl, uq⟩
        have UQ := Lib.hid (CZ.out.upd.trans uq)
        clear uq
        go_wp2_with (fail)
        go_ret
        exact ⟨rfl, UQ.out⟩
theorem resets18b (A A2 : Option Addr) (L L2 : List Int) (p : Nat) (R C : List Nat) (c c2 : Nat) (zz : World) (hT : Tz zz) (hA : IntsAt zz A L) (hlt : ∀ b o s, A = some ⟨b, o, s⟩ → b < zz.heap.size) (hsm : L.length ≤ 9223372036854775807)
    (hwf : ∀ x ∈ L, -9223372036854775808 ≤ x ∧ x ≤ 9223372036854775807) (hp : p < 2 ^ 32) (hR : R.length = 32 ∧ ∀ x ∈ R, x < 2 ^ 32) (hC : C.length = 5 ∧ ∀ x ∈ C, x < 2 ^ 32)
    (hA2 : IntsAt zz A2 L2) (hsm2 : L2.length ≤ 9223372036854775807) (hwf2 : ∀ x ∈ L2, -9223372036854775808 ≤ x ∧ x ≤ 9223372036854775807) :
    Calls Tryz.prog 5 #[.slice A L.length c, .int .u32 (p : Int), .agg (nums .u32 R), .agg (nums .u32 C), .slice A2 L2.length c2] zz fun e z' => e = .returned (.bool true) ∧ Below zz.heap.size zz z' :=
  (resets18 A A2 L L2 p R C c c2 zz hT hA hlt hsm hwf hp hR.1 hC.1 hR.2 hC.2 hA2 hsm2 hwf2).mono fun e z' ⟨h, u⟩ => ⟨h, u.below⟩
end Go.Proofs.YtmdjhahafjlebaaGreatDoor

namespace Go.Proofs.YtmdjhahafjlebaaGreatDoor.cCoreResets
open Go.ChangeShapes Go.WideShapes Go.ChangeAt Go.RowKit Go.Dio
open Go.ChangeMaps (open_string shut_string)
set_option linter.unusedVariables false
set_option maxRecDepth 100000

theorem contract (H : Type) (enc : TypeId × Value → H) (W : World) (base : Nat) (args : Array Value) (ds gs : List (DataW H)) (before : List MemPlace)
    (hval : ∀ (j : Nat) t v, Tryz.f5.params[j]? = some t → args[j]? = some v → Value.okWide Tryz.prog W .any base t v)
    (hW : DataW.Whole enc Tryz.prog Tryz.f5.params.toList Rows.coreResetsSpec.vars false W args.toList ds gs before) (hL : laidMetH Tryz.prog Rows.coreResetsRow.laid W) :
    Calls Tryz.prog 5 args W fun e W' => ∃ v, e = .returned v ∧ Rows.coreResetsSpec.post enc Tryz.prog Tryz.f5 false true false false W args v W' := by
  have hT : Tz W := dfr.table hL
  have hW' := hW
  obtain ⟨p, q, hA0, hV, rfl, hfz, hnd⟩ := hW
  have hA : DataW.TrodAll enc Tryz.prog W 0 (fun _ => true) true Tryz.f5.params.toList args.toList ds p := hA0
  rw [Tryz.params5] at hA hval
  obtain ⟨v0, vs0, d0, ds0, p0, q0, hargs, rfl, rfl, h0, r0⟩ := trodAll_cons hA
  obtain ⟨v1, vs1, d1, ds1, p1, q1, rfl, rfl, rfl, h1, r1⟩ := trodAll_cons r0
  obtain ⟨v2, vs2, d2, ds2, p2, q2, rfl, rfl, rfl, h2, r2⟩ := trodAll_cons r1
  obtain ⟨v3, vs3, d3, ds3, p3, q3, rfl, rfl, rfl, h3, r3⟩ := trodAll_cons r2
  obtain ⟨v4, vs4, d4, ds4, p4, q4, rfl, rfl, rfl, h4, r4⟩ := trodAll_cons r3
  obtain ⟨rfl, rfl, rfl⟩ := trodAll_nil r4
  obtain rfl : args = #[v0, v1, v2, v3, v4] := by cases args; simp_all
  obtain ⟨rfl, rfl⟩ := trodVars_none hV
  obtain ⟨A0, n0, c0, rfl⟩ := okWide_slice Tryz.underlying22 (hval 0 22 v0 rfl rfl)
  obtain ⟨l0, L0, rfl, c0le, m0, k0, b0⟩ := fr.open_ints' Tryz.underlying22 Tryz.underlying3 (by kernel_rfl) h0
  obtain ⟨x1, rfl, rfl, rfl, w1⟩ := open_int Tryz.underlying36 (hval 1 36 v1 rfl rfl) h1
  obtain ⟨a1, rfl, b1⟩ := dfr.nat_u32 w1
  obtain ⟨x2, rfl, k2⟩ := open_a32 (hval 2 41 v2 rfl rfl) h2
  obtain ⟨x3, rfl, k3⟩ := open_a5 (hval 3 42 v3 rfl rfl) h3
  obtain ⟨A4, n4, c4, rfl⟩ := okWide_slice Tryz.underlying22 (hval 4 22 v4 rfl rfl)
  obtain ⟨l4, L4, rfl, c4le, m4, k4, b4⟩ := fr.open_ints' Tryz.underlying22 Tryz.underlying3 (by kernel_rfl) h4
  clear hA0
  refine (resets18b A0 A4 l0 l4 a1 x2 x3 c0 c4 W hT L0 (okWide_ltw Tryz.underlying22 (hval 0 22 _ rfl rfl)) (by omega) (wf_rangew k0) b1 k2 k3 L4 (by omega) (wf_rangew k4)).mono fun e W' ⟨he, bel⟩ => ?_
  subst he
  exact ⟨_, rfl, fr.post_true fr.laidOut (by kernel_rfl) rfl hW' bel 4 rfl Tryz.underlying4 rfl rfl rfl⟩

theorem laid_met (os : Os) : laidMet Tryz.prog Rows.coreResetsRow.laid ((dfr.laidWorld os).forCall (fun _ _ => 0) ⟨#[], #[.slice none 0 0, .int .u32 0, .agg #[.int .u32 0, .int .u32 0, .int .u32 0, .int .u32 0, .int .u32 0, .int .u32 0, .int .u32 0, .int .u32 0, .int .u32 0, .int .u32 0, .int .u32 0, .int .u32 0, .int .u32 0, .int .u32 0, .int .u32 0, .int .u32 0, .int .u32 0, .int .u32 0, .int .u32 0, .int .u32 0, .int .u32 0, .int .u32 0, .int .u32 0, .int .u32 0, .int .u32 0, .int .u32 0, .int .u32 0, .int .u32 0, .int .u32 0, .int .u32 0, .int .u32 0, .int .u32 0], .agg #[.int .u32 0, .int .u32 0, .int .u32 0, .int .u32 0, .int .u32 0], .slice none 0 0], []⟩).memory :=
  laidMet_of_run' 8 (by kernel_rfl) (by kernel_rfl)
theorem reads (os : Os) {H : Type} (enc : TypeId × Value → H) : ∃ places, DataW.whole enc Tryz.prog ((dfr.laidWorld os).forCall (fun _ _ => 0) ⟨#[], #[.slice none 0 0, .int .u32 0, .agg #[.int .u32 0, .int .u32 0, .int .u32 0, .int .u32 0, .int .u32 0, .int .u32 0, .int .u32 0, .int .u32 0, .int .u32 0, .int .u32 0, .int .u32 0, .int .u32 0, .int .u32 0, .int .u32 0, .int .u32 0, .int .u32 0, .int .u32 0, .int .u32 0, .int .u32 0, .int .u32 0, .int .u32 0, .int .u32 0, .int .u32 0, .int .u32 0, .int .u32 0, .int .u32 0, .int .u32 0, .int .u32 0, .int .u32 0, .int .u32 0, .int .u32 0, .int .u32 0], .agg #[.int .u32 0, .int .u32 0, .int .u32 0, .int .u32 0, .int .u32 0], .slice none 0 0], []⟩).memory Tryz.f5.params.toList Rows.coreResetsSpec.vars false (#[.slice none 0 0, .int .u32 0, .agg #[.int .u32 0, .int .u32 0, .int .u32 0, .int .u32 0, .int .u32 0, .int .u32 0, .int .u32 0, .int .u32 0, .int .u32 0, .int .u32 0, .int .u32 0, .int .u32 0, .int .u32 0, .int .u32 0, .int .u32 0, .int .u32 0, .int .u32 0, .int .u32 0, .int .u32 0, .int .u32 0, .int .u32 0, .int .u32 0, .int .u32 0, .int .u32 0, .int .u32 0, .int .u32 0, .int .u32 0, .int .u32 0, .int .u32 0, .int .u32 0, .int .u32 0, .int .u32 0], .agg #[.int .u32 0, .int .u32 0, .int .u32 0, .int .u32 0, .int .u32 0], .slice none 0 0] : Array Value).toList 8 = some ([.nil, .lit (.int .u32 0), .agg [.lit (.int .u32 0), .lit (.int .u32 0), .lit (.int .u32 0), .lit (.int .u32 0), .lit (.int .u32 0), .lit (.int .u32 0), .lit (.int .u32 0), .lit (.int .u32 0), .lit (.int .u32 0), .lit (.int .u32 0), .lit (.int .u32 0), .lit (.int .u32 0), .lit (.int .u32 0), .lit (.int .u32 0), .lit (.int .u32 0), .lit (.int .u32 0), .lit (.int .u32 0), .lit (.int .u32 0), .lit (.int .u32 0), .lit (.int .u32 0), .lit (.int .u32 0), .lit (.int .u32 0), .lit (.int .u32 0), .lit (.int .u32 0), .lit (.int .u32 0), .lit (.int .u32 0), .lit (.int .u32 0), .lit (.int .u32 0), .lit (.int .u32 0), .lit (.int .u32 0), .lit (.int .u32 0), .lit (.int .u32 0)], .agg [.lit (.int .u32 0), .lit (.int .u32 0), .lit (.int .u32 0), .lit (.int .u32 0), .lit (.int .u32 0)], .nil], [], places) :=
  ⟨[], by kernel_rfl⟩

set_option maxRecDepth 100000 in
theorem lifted (os : Os) (started : os.Started) (H : Type) (enc : TypeId × Value → H) (F : Stop.Interp) :
    ReturnsInHanded {} Tryz.checked os 5 .any ((OpenSpec.ofChange Rows.coreResetsSpec).preRow enc Tryz.prog Tryz.f5 Rows.coreResetsRow.domain false Rows.coreResetsRow.laid) (((OpenSpec.ofChange Rows.coreResetsSpec).at F).post enc Tryz.prog Tryz.f5 false true false false) := by
  obtain ⟨places, hx⟩ := reads os enc
  refine returnsInHanded_of_row (C := Tryz.checked) (s := OpenSpec.ofChange Rows.coreResetsSpec) fr.own started (by kernel_rfl) Tryz.func5
    (witness_row_at (enc := enc) (C := Tryz.checked) false (dfr.laidWorld os) #[.slice none 0 0, .int .u32 0, .agg #[.int .u32 0, .int .u32 0, .int .u32 0, .int .u32 0, .int .u32 0, .int .u32 0, .int .u32 0, .int .u32 0, .int .u32 0, .int .u32 0, .int .u32 0, .int .u32 0, .int .u32 0, .int .u32 0, .int .u32 0, .int .u32 0, .int .u32 0, .int .u32 0, .int .u32 0, .int .u32 0, .int .u32 0, .int .u32 0, .int .u32 0, .int .u32 0, .int .u32 0, .int .u32 0, .int .u32 0, .int .u32 0, .int .u32 0, .int .u32 0, .int .u32 0, .int .u32 0], .agg #[.int .u32 0, .int .u32 0, .int .u32 0, .int .u32 0, .int .u32 0], .slice none 0 0] rfl (by kernel_rfl) (by kernel_rfl) (by kernel_rfl)
      (OpenSpec.preRow_of_cond 8 hx (by kernel_rfl) (fun k hk => by cases hk) (by kernel_rfl) (laid_met os))) ?_
  intro W base args ds gs before hval hW _ _ _ hL _ _
  exact contract H enc W base args ds gs before hval hW hL

theorem band {a b : Bool} (h : a = true) (k : b = true) : (a && b) = true := by rw [h, k]; rfl
set_option maxHeartbeats 4000000 in
theorem facts : joinedFacts Tryz.pinned.checked.prog 5 Tryz.f5 (OpenSpec.ofChange Rows.coreResetsSpec).bare Rows.coreResetsRow = true := by
  delta joinedFacts
  repeat' (with_reducible refine band ?_ ?_)
  all_goals as_aux_lemma => kernel_rfl

theorem said : Rows.CoreResetsSaid :=
  OpenClaim.holds_of_cond 5 Tryz.f5 rfl rfl rfl rfl rfl rfl rfl ⟨rfl, rfl, rfl, rfl, rfl⟩ rfl rfl rfl rfl rfl (by kernel_rfl) Tryz.func5 facts
    (of_decide_eq_true (by kernel_rfl)) (by unfold Func.isWrapper; first | (rw [if_pos (by decide +kernel)]; kernel_rfl) | (rw [if_neg (by decide +kernel)]; exact ⟨rfl, rfl⟩))
    (fun os started H enc _ F => by rw [OpenClaim.pre_eq_preRow]; exact lifted os started H enc F)

theorem plain (f : FuncId) (fn : Func) (hf : Tryz.pinned.checked.prog.funcNamed "dioscuri/dioscurilaw18.CoreResets" = some f) (hfn : Tryz.pinned.checked.prog.funcs[f]? = some fn) :
    false = Tryz.pinned.checked.prog.looks [] ∧ ∀ (j : Nat) t, fn.params[j]? = some t → Tryz.pinned.checked.prog.wantsStandIn t = false := by
  obtain rfl : f = 5 := Option.some.inj ((show Tryz.prog.funcNamed "dioscuri/dioscurilaw18.CoreResets" = some 5 by kernel_rfl).symm.trans hf) |>.symm
  obtain rfl : fn = Tryz.f5 := (Option.some.inj (Tryz.func5.symm.trans hfn)).symm
  refine ⟨by kernel_rfl, fun j t ht => ?_⟩
  have hall : (Tryz.f5.params.toList.all fun t => !Tryz.prog.wantsStandIn t) = true := by kernel_rfl
  have hm : t ∈ Tryz.f5.params.toList := by simpa using Array.mem_of_getElem? ht
  have := List.all_eq_true.1 hall t hm
  show Tryz.prog.wantsStandIn t = false
  simpa using this

theorem card : Rows.CoreResetsCardSaid :=
  Claim7.holds_tied_plain_at .later [] _ _ _ _ said (fun _ h => by cases h) (by kernel_rfl) (fun _ h => by cases h) coreResets_row_tie rfl ⟨rfl, rfl⟩ (by kernel_rfl) rfl plain (by kernel_rfl)
#print axioms card
end Go.Proofs.YtmdjhahafjlebaaGreatDoor.cCoreResets
