/- The document's checkpoints, in memory: put, NewSave, Scrub. -/
import Derived.Test.YthoaofbhppdfoaaDoorSave4
import Derived.Test.YthoaofbhppdfoaaDoorRowE
import Derived.Test.YthoaofbhppdfoaaDoorApp
namespace Go.Proofs.YthoaofbhppdfoaaDoor
open Go.RowKit Go.Dio
set_option linter.unusedSimpArgs false
set_option linter.unusedVariables false

theorem infoS_w32 : (Tryd.prog.info? 26).map (fun i => (i.zero, i.size, i.bytes)) = some (some (.int .u32 0), 1, 4) := by kernel_rfl
theorem madeS_w32 (n : Nat) : madeCells #[.int .u32 0] n = nums .u32 (List.replicate n 0) := by
  apply Array.ext
  · simp [madeCells, nums]
  · intro i h1 h2
    simp [madeCells, nums, Nat.mod_one]
theorem srcAt_newS (w : World) (cs : List Value) (t : TypeId) : SrcAt (w.alloc (.cells cs.toArray t)) (some ⟨w.heap.size, 0, none⟩) cs := fun _ =>
  ⟨w.heap.size, 0, rfl, fun j v hv => by rw [cells_of (Go.heap_alloc_last w (.cells cs.toArray t))]; simpa using hv⟩
theorem own_updS {w w' : World} {base e size n : Nat} {v : Value} {xs : List Value} {S : List Nat} (h : w.ownsRow base e size v n xs) (u : Upd S w w') (hS : ∀ g, v.ownBlock = some g → g ∉ S) : w'.ownsRow base e size v n xs := by
  obtain ⟨h1, h2⟩ := h
  refine ⟨h1, ?_⟩
  rcases h2 with h2 | ⟨g, cap, cur, hv, hg, hh, r⟩
  · exact Or.inl h2
  · exact Or.inr ⟨g, cap, cur, hv, hg, by rw [u.block g (lt_of_block hh) (hS g (by rw [hv]; rfl))]; exact hh, r⟩
theorem list_extS {l m : List Nat} (h : l.length = m.length) (he : ∀ j, j < l.length → nth l j = nth m j) : l = m :=
  List.ext_getElem h fun i h1 h2 => by rw [← nth_eq l i h1, ← nth_eq m i h2]; exact he i h1

structure RHoldAt (sb b d : Nat) (l : List Nat) (f a : Nat) (w : World) : Prop where
  cell : w.heap[sb]? = some (.cells #[.pointer (some ⟨b, 0, none⟩), .int .i64 (a : Int)] 42 (0, 0))
  row : RowAt 62 b d l f w
  nb : sb ≠ b
  nd : sb ≠ d
  f0 : sb ≠ 0
theorem RHoldAt.upd {sb b d : Nat} {l : List Nat} {f a : Nat} {S : List Nat} {w w' : World} (h : RHoldAt sb b d l f a w) (u : Upd S w w') (h1 : sb ∉ S) (h2 : b ∉ S) (h3 : d ∉ S) (hg : 0 ∉ S) : RHoldAt sb b d l f a w' :=
  ⟨u.keep h.cell h1, h.row.upd u h2 h3 hg, h.nb, h.nd, h.f0⟩
theorem RHoldAt.upd0 {sb b d : Nat} {l : List Nat} {f a : Nat} {w w' : World} (h : RHoldAt sb b d l f a w) (u : Upd [] w w') : RHoldAt sb b d l f a w' := h.upd u (by simp) (by simp) (by simp) (by simp)
theorem RHoldAt.step {sb b d : Nat} {l l' : List Nat} {f f' a : Nat} {S : List Nat} {w w' : World} (h : RHoldAt sb b d l f a w) (r : RowAt 62 b d l' f' w') (u : Upd S w w') (hS : ∀ x ∈ S, x = b ∨ x = d) : RHoldAt sb b d l' f' a w' :=
  ⟨u.keep h.cell (fun hx => by have := h.nb; have := h.nd; rcases hS _ hx with e | e <;> omega), r, h.nb, h.nd, h.f0⟩
theorem RHoldAt.next {sb b d : Nat} {l : List Nat} {f a : Nat} {w : World} (h : RHoldAt sb b d l f a w) (n : Nat) : RHoldAt sb b d l f n (w.setCell ⟨sb, 1, none⟩ (.int .i64 (n : Int))) := by
  refine ⟨?_, ?_, h.nb, h.nd, h.f0⟩
  · rw [heap_setCell_eq h.cell]; simp
  · exact h.row.upd ((Upd.refl [sb] w).setCell (p := ⟨sb, 1, none⟩) (by simp) _) (by have := h.nb; simp; omega) (by have := h.nd; simp; omega) (by have := h.f0; simp; omega)
def rholdA (sb b d : Nat) (l : List Nat) (f a : Nat) : Ast :=
  ⟨[sb, b, d], RHoldAt sb b d l f a, fun _ _ _ h u hb hg => h.upd u (hb sb (by simp)) (hb b (by simp)) (hb d (by simp)) hg⟩

/-- A row of numbers at the beginning of block g. -/
def SlAt (w : World) (g : Nat) (V : List Nat) : Prop := g < w.heap.size ∧ ∀ i, i < V.length → w.cell? ⟨g, i, none⟩ = some (.int .u32 ((nth V i : Nat) : Int))
theorem SlAt.upd {w w' : World} {g : Nat} {V : List Nat} {S : List Nat} (h : SlAt w g V) (u : Upd S w w') (hg : g ∉ S) : SlAt w' g V :=
  ⟨Nat.lt_of_lt_of_le h.1 u.size, fun i hi => by rw [← h.2 i hi]; exact World.cell?_of_block (u.block g h.1 hg)⟩

theorem mark_calls (n : Nat) (w : World) (h : n < 2 ^ 32) : Calls Tryd.prog 33 #[.int .u32 (n : Int)] w fun e w' => e = .returned (.int .u32 (markP n : Int)) ∧ w' = w := by
  have h1 := and65535 n h
  have h2 := or_mark (n % 65536) (Nat.mod_lt _ (by decide))
  have h3 : ((1526595584 + n % 65536 : Nat) : Int) = (markP n : Int) := rfl
  rw [h3] at h2
  generalize markP n = r at h2 ⊢
  generalize hq : n % 65536 = q at h1 h2
  clear hq h3
  go_enter Tryd.func33, Tryd.ntmps33
  go_wp2_with (fail)
  go_ret
  exact ⟨rfl, rfl⟩

theorem rsave_put {sb b d : Nat} {l V : List Nat} {f a i v K : Nat} {z : Int} {w : World} (h : RHoldAt sb b d (puts l (39 * K) V i) f a w) (hv : nth V i = v) (hz : z = (K : Int) * 39 + (i : Int)) (hlt : v < 2 ^ 32) :
    Calls Tryd.prog 29 #[.pointer (some ⟨b, 0, none⟩), .int .i64 z, .int .u32 (v : Int)] w fun e w' => e = .returned (.bool (inn (puts l (39 * K) V i) z)) ∧ RHoldAt sb b d (puts l (39 * K) V (i + 1)) f a w' ∧ Upd [d] w w' :=
  (RPut_calls _ b d _ f z v w h.row hlt).mono fun e w' ⟨he, hr, hu⟩ => ⟨he, by
    have e2 : puts l (39 * K) V (i + 1) = putL (puts l (39 * K) V i) z v := by
      rw [puts, hv, show ((39 * K + i : Nat) : Int) = z by omega]
    rw [e2]; exact h.step hr hu (by simp), hu⟩

set_option maxRecDepth 20000 in
set_option maxHeartbeats 2000000 in
theorem rput_calls (sb b d : Nat) (l : List Nat) (f a K : Nat) (V : List Nat) (g c : Nat) (w : World) (h : RHoldAt sb b d l f a w) (hK : K ≤ 1) (hV : SlAt w g V) (hl : V.length = 38) (hlt : ∀ i, nth V i < 2 ^ 32) (hg : g ≠ d) :
    Calls Tryd.prog 21 #[.pointer (some ⟨sb, 0, none⟩), .int .i64 (K : Int), .slice (some ⟨g, 0, none⟩) 38 c] w fun e w' => e = .returned (.tuple #[]) ∧ RHoldAt sb b d (puts l (39 * K) (V ++ [markP (nth V 37)]) 39) f a w' ∧ Upd [d] w w' := by
  have HWV : Hid (∀ i, i < 38 → nth (V ++ [markP (nth V 37)]) i = nth V i) := Lib.hid fun i hi => nth_app_left (by omega)
  have HWM : Hid (nth (V ++ [markP (nth V 37)]) 38 = markP (nth V 37)) := Lib.hid (by rw [nth_app_right (by omega), hl]; rfl)
  generalize V ++ [markP (nth V 37)] = W at HWV HWM ⊢
  have H0 := Lib.hid (show RHoldAt sb b d (puts l (39 * K) W 0) f a w from h)
  have HL := Lib.hid hl
  have HV := Lib.hid hV
  have HLT := Lib.hid hlt
  clear h hl hV hlt
  have eK : IntKind.i64.wrap (39 * (K : Int)) = 39 * (K : Int) := by rw [IntKind.wrap_i64]; omega
  go_enter Tryd.func21, Tryd.ntmps21
  go_wp2_with (fail)
  go_loopg [6, 9] 38 (fun gg v6 v9 wl => ∃ i : Nat, v9 = .int .i64 (i : Int) ∧ i ≤ 38 ∧ gg = 38 - i ∧ Hid (RHoldAt sb b d (puts l (39 * K) W i) f a wl) ∧ Hid (Upd [d] w wl))
  case atStart => exact ⟨0, rfl, by omega, rfl, H0, Lib.hid (Upd.refl _ _)⟩
  case round =>
    clear H0
    obtain ⟨i, rfl, hi, hgg, H, U⟩ := hrel
    have hs := (HV.out.upd U.out (by simpa using hg))
    have hsz := hs.1
    rcases Nat.lt_or_ge i 38 with hlt | hge
    · have di : decide ((i : Int) < 38) = true := decide_eq_true (by omega)
      have ez : IntKind.i64.wrap (39 * (K : Int) + (i : Int)) = 39 * (K : Int) + (i : Int) := by rw [IntKind.wrap_i64]; omega
      have hnd := H.out.nd
      have n0 : ∀ z : Near [d] wr, z.1.cell? ⟨sb, 0, none⟩ = some (.pointer (some ⟨b, 0, none⟩)) := fun z => by rw [cells_of (z.2.keep H.out.cell (by simpa using hnd))]; rfl
      have n1 : ∀ z : Near [d] wr, z.1.cell? ⟨g, i, none⟩ = some (.int .u32 ((nth V i : Nat) : Int)) := fun z => by rw [← hs.2 i (by rw [HL.out]; exact hlt)]; exact World.cell?_of_block (z.2.block g hsz (by simpa using hg))
      have hvi := HWV.out i hlt
      have hlv := HLT.out i
      generalize nth V i = v at n1 hvi hlv
      have HVI := Lib.hid hvi
      have HLV := Lib.hid hlv
      clear hs hvi hlv
      go_wp2_with (fail)
      refine wp_region_plan (fun z => ∃ x : Near [d] wr, z = x.1) [([0, 1, 2, 3, 4, 5, 6, 7, 8, 9, 10, 11], 12)] [] (by kernel_rfl) (by kernel_rfl) (by kernel_rfl) (by kernel_rfl) (fun _ d _ _ _ h => by cases d <;> exact h) ⟨⟨(wr).drew, (Upd.refl _ _).drew⟩, rfl⟩ ?_
      refine plan_next ?_
      simp only [opsAt, List.map_cons, List.map_nil, List.getElem?_toArray, List.getElem?_cons_zero, List.getElem?_cons_succ, Option.getD_some]
      repeat (go_big_quiet_step (fail))
      refine wpQuiet_nil ?_
      refine plan_one rfl ?_
      go_wp2_with fail
      refine (rsave_put (i := i) (v := v) (H.out.upd0 (Upd.refl _ _).drew) HVI.out (by omega) HLV.out).mono ?_
      rintro e w1 ⟨rfl, h', u⟩
      have H1 := Lib.hid h'
      have U1 := Lib.hid ((Upd.refl [d] wr).drew.trans u)
      clear h' u
      go_wp2_with (fail)
      refine plan_same ⟨⟨_, U1.out⟩, rfl⟩ ?_
      refine plan_last ?_
      simp only [opsAt, List.map_cons, List.map_nil, List.getElem?_toArray, List.getElem?_cons_zero, List.getElem?_cons_succ, Option.getD_some]
      repeat (go_big_quiet_step (fail))
      refine wpQuiet_nil ?_
      unfold planEnd
      go_wp2_with fail
      go_roundg (38 - (i + 1))
      case measure => omega
      case rel => exact ⟨i + 1, by go_num, by omega, rfl, H1, Lib.hid (U.out.trans U1.out)⟩
    · obtain rfl : i = 38 := by omega
      have hnd := H.out.nd
      have n0 : ∀ z : Near [d] wr, z.1.cell? ⟨sb, 0, none⟩ = some (.pointer (some ⟨b, 0, none⟩)) := fun z => by rw [cells_of (z.2.keep H.out.cell (by simpa using hnd))]; rfl
      have n1 : ∀ z : Near [d] wr, z.1.cell? ⟨g, 37, none⟩ = some (.int .u32 ((nth V 37 : Nat) : Int)) := fun z => by rw [← hs.2 37 (by rw [HL.out]; omega)]; exact World.cell?_of_block (z.2.block g hsz (by simpa using hg))
      have ez : IntKind.i64.wrap (39 * (K : Int) + 38) = 39 * (K : Int) + 38 := by rw [IntKind.wrap_i64]; omega
      have hlv := HLT.out 37
      generalize nth V 37 = v at n1 hlv HWM
      have MC := Lib.hid (fun wz => mark_calls v wz hlv)
      have hm := markP_lt v
      generalize markP v = mk at MC HWM hm
      have HM := Lib.hid hm
      clear hs hlv hm
      go_wp2_with (fail)
      refine wp_region_plan (fun z => ∃ x : Near [d] wr, z = x.1) [([0, 1, 2, 3, 4, 5, 6, 7, 8, 9], 10), ([], 11)] [] (by kernel_rfl) (by kernel_rfl) (by kernel_rfl) (by kernel_rfl) (fun _ d _ _ _ h => by cases d <;> exact h) ⟨⟨(wr).drew, (Upd.refl _ _).drew⟩, rfl⟩ ?_
      refine plan_next ?_
      simp only [opsAt, List.map_cons, List.map_nil, List.getElem?_toArray, List.getElem?_cons_zero, List.getElem?_cons_succ, Option.getD_some]
      repeat (go_big_quiet_step (fail))
      refine wpQuiet_nil ?_
      refine plan_one rfl ?_
      go_wp2_with fail
      refine (MC.out _).mono ?_
      rintro e w1 ⟨rfl, rfl⟩
      go_wp2_with (fail)
      refine plan_same ⟨⟨_, ((Upd.refl [d] wr).drew)⟩, rfl⟩ ?_
      refine plan_next ?_
      simp only [opsAt, List.map_cons, List.map_nil, List.getElem?_toArray, List.getElem?_cons_zero, List.getElem?_cons_succ, Option.getD_some]
      repeat (go_big_quiet_step (fail))
      refine wpQuiet_nil ?_
      refine plan_one rfl ?_
      go_wp2_with fail
      refine (rsave_put (i := 38) (v := mk) (H.out.upd0 (Upd.refl _ _).drew) HWM.out (by omega) HM.out).mono ?_
      rintro e w1 ⟨rfl, h', u⟩
      have H1 := Lib.hid h'
      have U1 := Lib.hid ((Upd.refl [d] wr).drew.trans u)
      clear h' u
      go_wp2_with (fail)
      refine plan_same ⟨⟨_, U1.out⟩, rfl⟩ ?_
      refine plan_last ?_
      simp only [opsAt, List.map_cons, List.map_nil, List.getElem?_toArray, List.getElem?_cons_zero, List.getElem?_cons_succ, Option.getD_some]
      repeat (go_big_quiet_step (fail))
      refine wpQuiet_nil ?_
      unfold planEnd
      go_wp2_with fail
      go_end0
      exact ⟨rfl, H1.out, U.out.trans U1.out⟩
end Go.Proofs.YthoaofbhppdfoaaDoor
