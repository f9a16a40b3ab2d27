/- Upsets: a row of upsets; the order that upset.Sort hands to slices.SortFunc. -/
import Derived.Test.YtgdmmhedcklkaaaProg
import Derived.Test.YtgdmmhedcklkaaaBase
import Derived.Test.YtgdmmhedcklkaaaApp
import Derived.Test.YtgdmmhedcklkaaaPlan
import Derived.Test.YtgdmmhedcklkaaaSeg
import Derived.Test.YtgdmmhedcklkaaaCel
import Derived.Test.YtgdmmhedcklkaaaAt
import Derived.Test.YtgdmmhedcklkaaaUpM
import Derived.Deep.LoopGhost
import Derived.Sort.Grow
import Derived.Deep.Draws
namespace Go.Proofs.Ytgdmmhedcklkaaa
open Go.RowKit Go.Dio
set_option linter.unusedSimpArgs false
set_option linter.unusedVariables false

def encU (x : UpV) : List Value := [.int .i64 x.1, .int .i64 x.2]
/-- A slice of upsets reads as a list. -/
def UpsAt (w : World) (A : Option Addr) (l : List UpV) : Prop :=
  0 < l.length → ∃ b o, A = some ⟨b, o, none⟩ ∧ b < w.heap.size ∧ ∀ i (h : i < l.length), w.cell? ⟨b, o + i * 2, none⟩ = some (.int .i64 l[i].1) ∧ w.cell? ⟨b, o + i * 2 + 1, none⟩ = some (.int .i64 l[i].2)
theorem UpsAt.of_upd {w w' : World} {A : Option Addr} {l : List UpV} (h : UpsAt w A l) (hu : Upd [] w w') : UpsAt w' A l := fun h0 => by
  obtain ⟨b, o, hA, hb, hc⟩ := h h0
  refine ⟨b, o, hA, Nat.lt_of_lt_of_le hb hu.size, fun i hi => ?_⟩
  obtain ⟨c1, c2⟩ := hc i hi
  exact ⟨by rw [← c1]; exact World.cell?_of_block (hu.block b hb (by simp)), by rw [← c2]; exact World.cell?_of_block (hu.block b hb (by simp))⟩

/-- Nothing but blocks and draws behind a world. -/
def Grown (w w' : World) : Prop := ∃ q os', w' = Sort.grow (w.drewN q) os'
theorem Grown.refl (w : World) : Grown w w := ⟨0, #[], by simp [Sort.grow, World.drewN]⟩
theorem Grown.alloc {w w' : World} (h : Grown w w') (o : Obj) : Grown w (w'.alloc o) := by
  obtain ⟨q, os, rfl⟩ := h
  exact ⟨q, os ++ #[o], by rw [Sort.alloc_eq_grow, Sort.grow_grow]⟩
theorem Grown.drew {w w' : World} (h : Grown w w') : Grown w w'.drew := by
  obtain ⟨q, os, rfl⟩ := h
  exact ⟨q + 1, os, rfl⟩

theorem Grown.trans {a b c : World} (h : Grown a b) (k : Grown b c) : Grown a c := by
  obtain ⟨q, os, rfl⟩ := h
  obtain ⟨q2, os2, rfl⟩ := k
  exact ⟨q + q2, os ++ os2, by
    simp [Sort.grow, World.drewN, Nat.add_assoc]⟩

def cmpI (a b : Int) : Int := if a < b then -1 else if a > b then 1 else 0
def cmpU (x y : UpV) : Int := if cmpI x.1 y.1 = 0 then cmpI x.2 y.2 else cmpI x.1 y.1
theorem compare_calls (a b : Int) (w : World) : Calls Try.prog 28 #[.int .i64 a, .int .i64 b] w fun e w' => e = .returned (.int .i64 (cmpI a b)) ∧ w' = w := by
  rcases Int.lt_trichotomy a b with h | h | h
  · have d1 : decide (a < b) = true := decide_eq_true h
    have e : cmpI a b = -1 := by unfold cmpI; rw [if_pos h]
    rw [e]
    clear e
    go_enter Try.func28, Try.ntmps28
    go_wp2
    go_ret
    exact ⟨rfl, rfl⟩
  · have e : cmpI a b = 0 := by unfold cmpI; rw [if_neg (by omega), if_neg (by omega)]
    have d1 : decide (a < b) = false := decide_eq_false (by omega)
    have d2 : decide (b < a) = false := decide_eq_false (by omega)
    rw [e]
    subst h
    clear e
    go_enter Try.func28, Try.ntmps28
    go_wp2
    go_ret
    exact ⟨rfl, rfl⟩
  · have d1 : decide (a < b) = false := decide_eq_false (by omega)
    have d2 : decide (b < a) = true := decide_eq_true h
    have e : cmpI a b = 1 := by unfold cmpI; rw [if_neg (by omega), if_pos (by omega)]
    rw [e]
    clear e
    go_enter Try.func28, Try.ntmps28
    go_wp2
    go_ret
    exact ⟨rfl, rfl⟩
theorem or_calls (a b : Int) (blk : Nat) (w : World) (h0 : w.cell? ⟨blk, 0, none⟩ = some (.int .i64 a)) (h1 : w.cell? ⟨blk, 1, none⟩ = some (.int .i64 b)) :
    Calls Try.prog 27 #[.slice (some ⟨blk, 0, none⟩) 2 2] w fun e w' => e = .returned (.int .i64 (if a = 0 then b else a)) ∧ w' = w := by
  have H0 := Lib.hid h0
  have H1 := Lib.hid h1
  clear h0 h1
  generalize hr : (if a = 0 then b else a) = r
  have HR := Lib.hid hr
  clear hr
  go_enter Try.func27, Try.ntmps27
  go_wp2_with (fail)
  go_loopg [5, 8] 2 (fun g v5 v8 wl => ∃ k : Nat, v8 = .int .i64 (k : Int) ∧ k ≤ 2 ∧ g = 2 - k ∧ wl = w ∧ (0 < k → a = 0) ∧ (1 < k → b = 0))
  case atStart => exact ⟨0, rfl, by omega, rfl, rfl, by omega, by omega⟩
  case round =>
    obtain ⟨k, rfl, hk, hg, rfl, ha, hb⟩ := hrel
    rcases (by omega : k = 0 ∨ k = 1 ∨ k = 2) with rfl | rfl | rfl
    · have h0 := H0.out
      by_cases ea : a = 0
      · have d0 : decide (a = 0) = true := decide_eq_true ea
        go_wp2_with (fail)
        go_roundg (2 - 1)
        case measure => omega
        case rel => exact ⟨1, by go_num, by omega, rfl, rfl, fun _ => ea, by omega⟩
      · have d0 : decide (a = 0) = false := decide_eq_false ea
        have HE := HR.out
        rw [if_neg ea] at HE
        subst HE
        go_wp2_with (fail)
        go_ret
        exact ⟨rfl, rfl⟩
    · have h1 := H1.out
      have ea := ha (by omega)
      by_cases eb : b = 0
      · have d0 : decide (b = 0) = true := decide_eq_true eb
        go_wp2_with (fail)
        go_roundg (2 - 2)
        case measure => omega
        case rel => exact ⟨2, by go_num, by omega, rfl, rfl, fun _ => ea, fun _ => eb⟩
      · have d0 : decide (b = 0) = false := decide_eq_false eb
        have HE := HR.out
        rw [if_pos ea] at HE
        subst HE
        go_wp2_with (fail)
        go_ret
        exact ⟨rfl, rfl⟩
    · have ea := ha (by omega)
      have eb := hb (by omega)
      have HE := HR.out
      rw [if_pos ea, eb] at HE
      subst HE
      go_wp2_with (fail)
      go_ret
      exact ⟨rfl, rfl⟩

theorem closure_calls (x y : UpV) (w : World) : Calls Try.prog 26 #[.agg #[.int .i64 x.1, .int .i64 x.2], .agg #[.int .i64 y.1, .int .i64 y.2]] w fun e w' => e = .returned (.int .i64 (cmpU x y)) ∧ Grown w w' := by
  generalize hr : cmpU x y = r
  have HR := Lib.hid hr
  clear hr
  obtain ⟨x1, x2⟩ := x
  obtain ⟨y1, y2⟩ := y
  go_enter Try.func26, Try.ntmps26
  go_wp2_with (fail)
  have h1 : ((w.alloc (.cells #[.int .i64 x1, .int .i64 x2] 37)).alloc (.cells #[.int .i64 y1, .int .i64 y2] 37)).heap[w.heap.size]? = some (.cells #[.int .i64 x1, .int .i64 x2] 37 (0, 0)) := heap_old (Go.heap_alloc_last w _) _
  have h2 : ((w.alloc (.cells #[.int .i64 x1, .int .i64 x2] 37)).alloc (.cells #[.int .i64 y1, .int .i64 y2] 37)).heap[w.heap.size + 1]? = some (.cells #[.int .i64 y1, .int .i64 y2] 37 (0, 0)) := by simpa using Go.heap_alloc_last (w.alloc (.cells #[.int .i64 x1, .int .i64 x2] 37)) (.cells #[.int .i64 y1, .int .i64 y2] 37)
  have G := ((Grown.refl w).alloc (.cells #[.int .i64 x1, .int .i64 x2] 37)).alloc (.cells #[.int .i64 y1, .int .i64 y2] 37)
  generalize hW : (w.alloc (.cells #[.int .i64 x1, .int .i64 x2] 37)).alloc (.cells #[.int .i64 y1, .int .i64 y2] 37) = W at h1 h2 G ⊢
  clear hW
  generalize w.heap.size = b at h1 h2 ⊢
  have n1 : ∀ x : Near [] W, x.1.cell? ⟨b, 0, none⟩ = some (.int .i64 x1) := fun x => by rw [cells_of (x.2.keep h1 (by simp))]; rfl
  have n2 : ∀ x : Near [] W, x.1.cell? ⟨b, 1, none⟩ = some (.int .i64 x2) := fun x => by rw [cells_of (x.2.keep h1 (by simp))]; rfl
  have n3 : ∀ x : Near [] W, x.1.cell? ⟨b + 1, 0, none⟩ = some (.int .i64 y1) := fun x => by rw [cells_of (x.2.keep h2 (by simp))]; rfl
  have n4 : ∀ x : Near [] W, x.1.cell? ⟨b + 1, 1, none⟩ = some (.int .i64 y2) := fun x => by rw [cells_of (x.2.keep h2 (by simp))]; rfl
  refine wp_region_plan (fun z => ∃ x : Near [] W, z = x.1) [([0, 1, 2, 3, 5, 6, 7, 8], 4), ([], 9), ([], 10), ([], 11)] [12] (by kernel_rfl) (by kernel_rfl) (by kernel_rfl) (by kernel_rfl) (fun _ d _ _ _ h => by cases d <;> exact h) ⟨⟨(W).drew, (Upd.refl _ _).drew⟩, rfl⟩ ?_
  refine plan_next ?_
  simp only [opsAt, List.map_cons, List.map_nil, List.getElem?_toArray, List.getElem?_cons_zero, List.getElem?_cons_succ, Option.getD_some]
  repeat (go_big_quiet_step (fail))
  refine wpQuiet_nil ?_
  refine plan_one rfl ?_
  go_wp2_with fail
  refine (compare_calls x1 y1 _).mono ?_
  rintro e w1 ⟨rfl, rfl⟩
  go_wp2_with fail
  refine plan_same ⟨⟨_, ((Upd.refl [] W).drew)⟩, rfl⟩ ?_
  refine plan_next ?_
  simp only [opsAt, List.map_cons, List.map_nil, List.getElem?_toArray, List.getElem?_cons_zero, List.getElem?_cons_succ, Option.getD_some]
  repeat (go_big_quiet_step (fail))
  refine wpQuiet_nil ?_
  refine plan_one rfl ?_
  go_wp2_with fail
  refine (compare_calls x2 y2 _).mono ?_
  rintro e w1 ⟨rfl, rfl⟩
  go_wp2_with fail
  refine plan_same ⟨⟨_, ((Upd.refl [] W).drew)⟩, rfl⟩ ?_
  refine plan_next ?_
  simp only [opsAt, List.map_cons, List.map_nil, List.getElem?_toArray, List.getElem?_cons_zero, List.getElem?_cons_succ, Option.getD_some]
  repeat (go_big_quiet_step (fail))
  refine wpQuiet_nil ?_
  refine plan_one rfl ?_
  go_wp2_with fail
  refine plan_same ⟨⟨_, (((Upd.refl [] W).alloc _).drew)⟩, rfl⟩ ?_
  refine plan_next ?_
  simp only [opsAt, List.map_cons, List.map_nil, List.getElem?_toArray, List.getElem?_cons_zero, List.getElem?_cons_succ, Option.getD_some]
  repeat (go_big_quiet_step (fail))
  refine wpQuiet_nil ?_
  refine plan_one rfl ?_
  go_wp2_with fail
  have z : (W.alloc (.cells #[.int .i64 (cmpI x1 y1), .int .i64 (cmpI x2 y2)] 3)).drew.heap[W.heap.size]? = some (.cells #[.int .i64 (cmpI x1 y1), .int .i64 (cmpI x2 y2)] 3 (0, 0)) := Go.heap_alloc_last W _
  have oc := or_calls (cmpI x1 y1) (cmpI x2 y2) _ _ (by rw [cells_of z]; rfl) (by rw [cells_of z]; rfl)
  rw [show (if cmpI x1 y1 = 0 then cmpI x2 y2 else cmpI x1 y1) = r from HR.out] at oc
  refine oc.mono ?_
  rintro e w1 ⟨rfl, rfl⟩
  go_wp2_with fail
  refine plan_same ⟨⟨_, (((Upd.refl [] W).alloc _).drew)⟩, rfl⟩ ?_
  refine plan_last ?_
  simp only [opsAt, List.map_cons, List.map_nil, List.getElem?_toArray, List.getElem?_cons_zero, List.getElem?_cons_succ, Option.getD_some]
  repeat (go_big_quiet_step (fail))
  refine wpQuiet_nil ?_
  unfold planEnd
  go_wp2_with fail
  go_ret
  exact ⟨rfl, G.trans (((Grown.refl W).alloc _).drew)⟩
end Go.Proofs.Ytgdmmhedcklkaaa
