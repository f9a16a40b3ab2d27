/- Law 12: CompareNumbers. -/
import Derived.Test.YtgdmmhedcklkaaaL12d
import Derived.Test.YtgdmmhedcklkaaaTree
import Derived.Test.YtgdmmhedcklkaaaAt
import Derived.Test.YtgdmmhedcklkaaaBits
import Derived.Deep.LoopGhost
namespace Go.Proofs.Ytgdmmhedcklkaaa
open Go.RowKit Go.Dio
set_option linter.unusedSimpArgs false
set_option linter.unusedVariables false

def nBase : RetV := ⟨4, 5, 6, true, 8, 9, 3⟩
/-- The record with the thing of a number turned. -/
def nTurn : Nat → RetV
  | 0 => { nBase with pc := 5 }
  | 1 => { nBase with val := 6 }
  | 2 => { nBase with rd := 7 }
  | 3 => { nBase with st := false }
  | 4 => { nBase with addr := 9 }
  | 5 => { nBase with data := 10 }
  | 6 => { nBase with mask := 4 }
  | _ => nBase
theorem nTurn_eq : ∀ k, k < 8 → decide (nBase = nTurn k) = decide (k = 7) ∧ decide (nTurn k = nBase) = decide (k = 7) := by decide
theorem row_one (r : RetV) : r.arr.all (·.oneCell') = true := by simp [RetV.arr, Value.oneCell']

def zSt : StV := ⟨0, List.replicate 32 0, List.replicate 5 0, none, [], 0⟩
def nSt (b : Nat) (m : List Nat) : StV := ⟨0, List.replicate 32 0, List.replicate 5 0, some ⟨b, 0, none⟩, m, 2⟩
def uSt (b : Nat) : StV := ⟨0, (List.replicate 32 0).set 7 1, List.replicate 5 0, some ⟨b, 0, none⟩, [1, 2], 2⟩
def vSt (b : Nat) : StV := ⟨0, List.replicate 32 0, (List.replicate 5 0).set 4 1, some ⟨b, 0, none⟩, [1, 2], 2⟩
def oSt (b : Nat) : StV := ⟨0, List.replicate 32 0, List.replicate 5 0, some ⟨b, 0, none⟩, [1], 1⟩
theorem four_allocs (w : World) (A B C D : Obj) : ((((w.alloc A).alloc B).alloc C).alloc D).heap[w.heap.size]? = some A ∧ ((((w.alloc A).alloc B).alloc C).alloc D).heap[w.heap.size + 1]? = some B ∧
    ((((w.alloc A).alloc B).alloc C).alloc D).heap[w.heap.size + 1 + 1]? = some C ∧ ((((w.alloc A).alloc B).alloc C).alloc D).heap[w.heap.size + 1 + 1 + 1]? = some D := by
  have a := Go.heap_alloc_last w A
  have b := Go.heap_alloc_last (w.alloc A) B
  have c := Go.heap_alloc_last ((w.alloc A).alloc B) C
  have d := Go.heap_alloc_last (((w.alloc A).alloc B).alloc C) D
  have s1 : (w.alloc A).heap.size = w.heap.size + 1 := by simp
  have s2 : ((w.alloc A).alloc B).heap.size = w.heap.size + 1 + 1 := by simp
  have s3 : (((w.alloc A).alloc B).alloc C).heap.size = w.heap.size + 1 + 1 + 1 := by simp
  rw [s1] at b
  rw [s2] at c
  rw [s3] at d
  exact ⟨heap_old (heap_old (heap_old a _) _) _, heap_old (heap_old b _) _, heap_old c _, d⟩
theorem retsAt_blk {w : World} {b : Nat} {l : List RetV} {T : TypeId} {fr : Nat × Nat} (h : w.heap[b]? = some (.cells (retVals l).toArray T fr)) : RetsAt w (some ⟨b, 0, none⟩) l := fun _ =>
  ⟨b, 0, rfl, lt_of_block h, fun i hi j v hv => by
    rw [cell_of_row w b _ _ T fr h]
    have := retVals_at l i j v hi hv
    simpa using this⟩
theorem retsAt_take {w : World} {A : Option Addr} {l : List RetV} (h : RetsAt w A l) (n : Nat) : RetsAt w A (l.take n) := fun h0 => by
  have h1 : 0 < l.length := by rw [List.length_take] at h0; omega
  obtain ⟨b, o, hA, hb, hc⟩ := h h1
  refine ⟨b, o, hA, hb, fun i hi => ?_⟩
  have hi2 : i < l.length := by rw [List.length_take] at hi; omega
  have := hc i hi2
  simpa using this
theorem numsAt_blk {w : World} {b : Nat} {l : List Nat} {T : TypeId} {fr : Nat × Nat} (h : w.heap[b]? = some (.cells (nums .u32 l) T fr)) : NumsAt w .u32 (some ⟨b, 0, none⟩) l := fun _ =>
  ⟨b, 0, rfl, lt_of_block h, fun i hi => by
    rw [cell_of_row w b _ _ T fr h, Nat.zero_add]
    exact nums_nth .u32 l i hi⟩
set_option maxRecDepth 20000 in
set_option maxHeartbeats 4000000 in
theorem numbers12_walk (w : World) : Calls Try.prog 3 #[] w fun e w' => e = .returned (.bool true) ∧ Below w.heap.size w w' := by
  go_enter Try.func3, Try.ntmps3
  go_wp2_with (fail)
  have hb1 := Go.heap_alloc_last w (.cells nBase.arr 24)
  have u1 : Upd [] w (w.alloc (.cells nBase.arr 24)) := (Upd.refl _ _).alloc _
  generalize hb : w.heap.size = b1 at hb1 ⊢
  have HB := Lib.hid hb
  clear hb
  have B1 := Lib.hid hb1
  have U1 := Lib.hid u1
  clear hb1 u1
  go_loopg [2] 8 (fun g v2 wl => ∃ k : Nat, v2 = .int .i64 (k : Int) ∧ k ≤ 8 ∧ g = 8 - k ∧ Hid (wl.heap[b1]? = some (.cells nBase.arr 24 (0, 0))) ∧ Hid (Upd [] w wl))
  case atStart => exact ⟨0, rfl, by omega, rfl, B1, U1⟩
  case round =>
    clear B1 U1
    obtain ⟨k, rfl, hk, hg, B, U⟩ := hrel
    rcases Nat.lt_or_ge k 8 with h8 | h8
    · have d8 : decide ((k : Int) < 8) = true := decide_eq_true (by omega)
      have i1 := info_ret
      go_upto_block 2 with (first
        | go_skip
        | (refine L_load 24 (.tmp 1) rfl (by kernel_rfl) _ _ rfl nBase.arr (row_range B.out) Try.underlying24 rfl 7 info_ret rfl ?_)
        | (refine L_store_new 24 (.tmp 3) (.tmp 16) rfl (by kernel_rfl) _ nBase.arr rfl rfl 7 info_ret rfl rfl (row_one _) ?_))
      have B2 := Lib.hid (heap_old B.out (.cells nBase.arr 24))
      have X2 := Lib.hid (Go.heap_alloc_last wr (.cells nBase.arr 24))
      have U2 := Lib.hid (U.out.alloc (.cells nBase.arr 24))
      have hne : wr.heap.size ≠ b1 := fun e => by have := lt_of_block B.out; omega
      have hlo : w.heap.size ≤ wr.heap.size := U.out.size
      clear B U
      generalize wr.alloc (.cells nBase.arr 24) = W at B2 X2 U2 ⊢
      generalize wr.heap.size = b3 at X2 hne hlo ⊢
      have c0 : W.cell? ⟨b3, 0, none⟩ = some (.int .u32 4) := by rw [cells_of X2.out]; rfl
      have c1 : W.cell? ⟨b3, 1, none⟩ = some (.int .u32 5) := by rw [cells_of X2.out]; rfl
      have c2 : W.cell? ⟨b3, 2, none⟩ = some (.int .i64 6) := by rw [cells_of X2.out]; rfl
      have c3 : W.cell? ⟨b3, 3, none⟩ = some (.bool true) := by rw [cells_of X2.out]; rfl
      have c4 : W.cell? ⟨b3, 4, none⟩ = some (.int .u32 8) := by rw [cells_of X2.out]; rfl
      have c5 : W.cell? ⟨b3, 5, none⟩ = some (.int .u32 9) := by rw [cells_of X2.out]; rfl
      have c6 : W.cell? ⟨b3, 6, none⟩ = some (.int .i64 3) := by rw [cells_of X2.out]; rfl
      have ff : ∀ j, W.frozen? ⟨b3, j, none⟩ = false := free_of X2.out
      have f0 := ff 0
      have f1 := ff 1
      have f2 := ff 2
      have f3 := ff 3
      have f4 := ff 4
      have f5 := ff 5
      have f6 := ff 6
      clear ff
      go_cut [18] (fun v18 wc => Hid (wc.heap[b3]? = some (.cells (nTurn k).arr 24 (0, 0))) ∧ Hid (Upd [b3] W wc))
      case first =>
        rcases (by omega : k = 0 ∨ k = 1 ∨ k = 2 ∨ k = 3 ∨ k = 4 ∨ k = 5 ∨ k = 6 ∨ k = 7) with rfl | rfl | rfl | rfl | rfl | rfl | rfl | rfl
        all_goals
          go_wp2_with (fail)
          go_meet
          case rel => first
            | exact ⟨Lib.hid X2.out, Lib.hid (Upd.refl _ _)⟩
            | exact ⟨Lib.hid (by rw [heap_setCell_eq X2.out]; rfl), Lib.hid ((Upd.refl [b3] W).setCell (by simp) _)⟩
      case rest =>
        obtain ⟨X3, U3⟩ := hcut
        clear c0 c1 c2 c3 c4 c5 c6 f0 f1 f2 f3 f4 f5 f6
        have BB := Lib.hid (U3.out.keep B2.out (by simp; omega))
        have UU := Lib.hid (U2.out.then U3.out (fun x hx hlt => by simp at hx; omega))
        clear B2 X2 U2 U3
        obtain ⟨Q, hQ⟩ : ∃ Q : Bool, Q = decide (k = 7) := ⟨_, rfl⟩
        obtain ⟨e1, e2⟩ := nTurn_eq k h8
        rw [← hQ] at e1 e2
        have q7 : ((k : Int) == 7) = Q := by rw [hQ, Bool.eq_iff_iff]; simp only [beq_iff_eq, decide_eq_true_eq]; omega
        have S1 := Lib.hid fun w' => Same_calls nBase (nTurn k) w'
        have S2 := Lib.hid fun w' => Same_calls (nTurn k) nBase w'
        rw [e1] at S1
        rw [e2] at S2
        have Q7 := Lib.hid q7
        clear e1 e2 hQ q7
        obtain ⟨x, hx⟩ : ∃ x, x = nTurn k := ⟨_, rfl⟩
        rw [← hx] at S1 S2 X3
        clear hx
        have q7 := Q7.out
        go_wp2_with (first
          | go_skip
          | (refine L_load 24 (.tmp 1) rfl (by kernel_rfl) _ _ rfl nBase.arr (row_range BB.out) Try.underlying24 rfl 7 info_ret rfl ?_)
          | (refine L_load 24 (.tmp 3) rfl (by kernel_rfl) _ _ rfl x.arr (row_range X3.out) Try.underlying24 rfl 7 info_ret rfl ?_))
        refine (S1.out _).mono ?_
        rintro e w' ⟨rfl, hb⟩
        have u := Upd.of_below (S := []) hb
        replace BB := Lib.hid (u.keep BB.out (by simp))
        replace X3 := Lib.hid (u.keep X3.out (by simp))
        replace UU := Lib.hid (UU.out.trans u)
        clear hb u
        go_wp2_with (first
          | go_skip
          | (refine L_load 24 (.tmp 1) rfl (by kernel_rfl) _ _ rfl nBase.arr (row_range BB.out) Try.underlying24 rfl 7 info_ret rfl ?_)
          | (refine L_load 24 (.tmp 3) rfl (by kernel_rfl) _ _ rfl x.arr (row_range X3.out) Try.underlying24 rfl 7 info_ret rfl ?_))
        refine (S2.out _).mono ?_
        rintro e w2 ⟨rfl, hb⟩
        have u := Upd.of_below (S := []) hb
        replace BB := Lib.hid (u.keep BB.out (by simp))
        replace X3 := Lib.hid (u.keep X3.out (by simp))
        replace UU := Lib.hid (UU.out.trans u)
        clear hb u S1 S2
        go_wp2_with (fail)
        obtain ⟨kk, hkk⟩ : ∃ kk : Nat, kk = k % 2 := ⟨_, rfl⟩
        have hk1 : bits .and .i64 (k : Int) 1 = (kk : Int) := by
          have e : (1 : Int) = ((2 ^ 1 - 1 : Nat) : Int) := by decide
          rw [e, andi k _ (by omega) (by decide), Nat.and_two_pow_sub_one_eq_mod, hkk]
        have hkk2 : kk < 2 := by rw [hkk]; exact Nat.mod_lt _ (by decide)
        clear hkk
        go_loopg [4] 4 (fun g v4 wl => ∃ i : Nat, v4 = .int .i64 (i : Int) ∧ i ≤ 4 ∧ g = 4 - i ∧ Hid (wl.heap[b1]? = some (.cells nBase.arr 24 (0, 0))) ∧ Hid (wl.heap[b3]? = some (.cells x.arr 24 (0, 0))) ∧ Hid (Upd [] w wl))
        case atStart => exact ⟨0, rfl, by omega, rfl, BB, X3, UU⟩
        case round =>
          clear BB X3 UU
          obtain ⟨i, rfl, hi, hgi, BB, X3, UU⟩ := hrel
          rcases Nat.lt_or_ge i 4 with hi4 | hi4
          · have NB := Lib.hid (show ∀ y : Near [] wr, y.1.rangeAt b1 0 nBase.arr.toList from fun y => row_range (y.2.keep BB.out (by simp)))
            go_upto_region 26 with (fail)
            go_cut [5, 6] (fun v5 v6 wc => ∃ s1 s2 : Nat, v5 = .slice (some ⟨s1, 0, none⟩) 4 4 ∧ v6 = .slice (some ⟨s2, 0, none⟩) 4 4 ∧ Hid (wr.heap.size ≤ s1 ∧ wr.heap.size ≤ s2 ∧ s1 ≠ s2) ∧ Hid (wc.heap[s1]? = some (.cells (retVals [nBase, nBase, nBase, nBase]).toArray 24 (0, 0))) ∧ Hid (wc.heap[s2]? = some (.cells (retVals [nBase, nBase, nBase, nBase]).toArray 24 (0, 0))) ∧ Hid (Upd [] wr wc))
            case first =>
              refine wp_region_tree (fun z => ∃ x : Near [] wr, z = x.1) (.two [0, 1, 2, 3, 5, 6, 7, 8] 4 (.one [10] 9 (.done [11])) 9 (.one [] 4 (.done [10, 11]))) (by kernel_rfl) (by kernel_rfl) (by decide) (by kernel_rfl) (fun _ d _ _ _ h => by cases d <;> exact h) ⟨⟨(wr).drew, (Upd.refl _ _).drew⟩, rfl⟩ ?_
              refine tree_two ?_
              simp only [opsAt, List.map_cons, List.map_nil, List.getElem?_toArray, List.getElem?_cons_zero, List.getElem?_cons_succ, Option.getD_some]
              iterate 8
                refine Q_load 24 (.tmp 1) rfl (by kernel_rfl) _ _ rfl nBase.arr (by rintro _ ⟨y, rfl⟩; exact NB.out y) Try.underlying24 rfl 7 info_ret rfl ?_
                go_simp
              refine wpQuiet_nil ?_
              refine ⟨?_, ?_⟩
              ·
                refine L_value (by kernel_rfl) (.slice (some ⟨wr.heap.size, 0, none⟩) 4 4) (w' := wr.drew.alloc (.cells (retVals [nBase, nBase, nBase, nBase]).toArray 24)) (by kernel_rfl) ?_
                generalize hW : World.alloc wr.drew _ = W1
                have u1 : Upd [] wr W1 := by rw [← hW]; exact ((Upd.refl _ _).drew).alloc _
                have z1 : W1.heap[wr.heap.size]? = some (.cells (retVals [nBase, nBase, nBase, nBase]).toArray 24 (0, 0)) := by rw [← hW]; exact Go.heap_alloc_last wr.drew _
                have hz : W1.heap.size = wr.heap.size + 1 := by rw [← hW]; simp
                have HZ := Lib.hid hz
                clear hW hz
                refine tree_same ⟨⟨_, u1⟩, rfl⟩ ?_
                refine tree_one ?_
                simp only [opsAt, List.map_cons, List.map_nil, List.getElem?_toArray, List.getElem?_cons_zero, List.getElem?_cons_succ, Option.getD_some]
                go_simp
                repeat (go_big_quiet_step (fail))
                refine wpQuiet_nil ?_
                refine L_value (by kernel_rfl) (.slice (some ⟨W1.heap.size, 0, none⟩) 4 4) (w' := W1.alloc (.cells (retVals [nBase, nBase, nBase, nBase]).toArray 24)) (by kernel_rfl) ?_
                generalize hW : World.alloc W1 _ = W2
                have u2 : Upd [] W1 W2 := by rw [← hW]; exact (Upd.refl _ _).alloc _
                have z2 : W2.heap[W1.heap.size]? = some (.cells (retVals [nBase, nBase, nBase, nBase]).toArray 24 (0, 0)) := by rw [← hW]; exact Go.heap_alloc_last W1 _
                have z1' := u2.keep z1 (by simp)
                have U12 := Lib.hid (u1.trans u2)
                have Z2' := Lib.hid z2
                have Z1' := Lib.hid z1'
                clear hW u2 z2 z1 z1' u1
                refine tree_same ⟨⟨_, U12.out⟩, rfl⟩ ?_
                refine tree_done ?_
                simp only [opsAt, List.map_cons, List.map_nil, List.getElem?_toArray, List.getElem?_cons_zero, List.getElem?_cons_succ, Option.getD_some]
                go_simp
                repeat (go_big_quiet_step (fail))
                refine wpQuiet_nil ?_
                go_wp2_with (fail)
                go_meet
                case rel => exact ⟨wr.heap.size, W1.heap.size, rfl, rfl, Lib.hid ⟨Nat.le_refl _, by rw [HZ.out]; omega, by rw [HZ.out]; omega⟩, Z1', Z2', U12⟩
              ·
                refine L_value (by kernel_rfl) (.slice (some ⟨wr.heap.size, 0, none⟩) 4 4) (w' := wr.drew.alloc (.cells (retVals [nBase, nBase, nBase, nBase]).toArray 24)) (by kernel_rfl) ?_
                generalize hW : World.alloc wr.drew _ = W1
                have u1 : Upd [] wr W1 := by rw [← hW]; exact ((Upd.refl _ _).drew).alloc _
                have z1 : W1.heap[wr.heap.size]? = some (.cells (retVals [nBase, nBase, nBase, nBase]).toArray 24 (0, 0)) := by rw [← hW]; exact Go.heap_alloc_last wr.drew _
                have hz : W1.heap.size = wr.heap.size + 1 := by rw [← hW]; simp
                have HZ := Lib.hid hz
                clear hW hz
                refine tree_same ⟨⟨_, u1⟩, rfl⟩ ?_
                refine tree_one ?_
                simp only [opsAt, List.map_cons, List.map_nil, List.getElem?_toArray, List.getElem?_cons_zero, List.getElem?_cons_succ, Option.getD_some]
                go_simp
                repeat (go_big_quiet_step (fail))
                refine wpQuiet_nil ?_
                refine L_value (by kernel_rfl) (.slice (some ⟨W1.heap.size, 0, none⟩) 4 4) (w' := W1.alloc (.cells (retVals [nBase, nBase, nBase, nBase]).toArray 24)) (by kernel_rfl) ?_
                generalize hW : World.alloc W1 _ = W2
                have u2 : Upd [] W1 W2 := by rw [← hW]; exact (Upd.refl _ _).alloc _
                have z2 : W2.heap[W1.heap.size]? = some (.cells (retVals [nBase, nBase, nBase, nBase]).toArray 24 (0, 0)) := by rw [← hW]; exact Go.heap_alloc_last W1 _
                have z1' := u2.keep z1 (by simp)
                have U12 := Lib.hid (u1.trans u2)
                have Z2' := Lib.hid z2
                have Z1' := Lib.hid z1'
                clear hW u2 z2 z1 z1' u1
                refine tree_same ⟨⟨_, U12.out⟩, rfl⟩ ?_
                refine tree_done ?_
                simp only [opsAt, List.map_cons, List.map_nil, List.getElem?_toArray, List.getElem?_cons_zero, List.getElem?_cons_succ, Option.getD_some]
                go_simp
                repeat (go_big_quiet_step (fail))
                refine wpQuiet_nil ?_
                go_wp2_with (fail)
                go_meet
                case rel => exact ⟨W1.heap.size, wr.heap.size, rfl, rfl, Lib.hid ⟨by rw [HZ.out]; omega, Nat.le_refl _, by rw [HZ.out]; omega⟩, Z2', Z1', U12⟩
            case rest =>
              obtain ⟨s1, s2, rfl, rfl, hs, Z1, Z2, U2⟩ := hcut
              have BB2 := Lib.hid (U2.out.keep BB.out (by simp))
              have X32 := Lib.hid (U2.out.keep X3.out (by simp))
              have UW := Lib.hid (UU.out.trans U2.out)
              have hlo : w.heap.size ≤ s2 := Nat.le_trans UU.out.size hs.out.2.1
              clear NB
              go_wp2_with (first
                | go_skip
                | ((with_reducible refine at_op 87 ?_); refine L_load 24 (.tmp 3) rfl (by kernel_rfl) _ _ rfl x.arr (row_range X32.out) Try.underlying24 rfl 7 info_ret rfl ?_)
                | ((with_reducible refine at_st 88 ?_); refine L_store_row 24 (.tmp 88) (.tmp 87) rfl (by kernel_rfl) s2 (i * 7) rfl (retVals [nBase, nBase, nBase, nBase]) 24 Z2.out x.arr rfl 7 info_ret rfl (by rw [retVals_len]; simp; omega) (row_one _) ?_)
                | fail)
              intro w3 b3 u3 z3
              have hset : spl (retVals [nBase, nBase, nBase, nBase]) (i * 7) x.arr.toList = retVals ([nBase, nBase, nBase, nBase].set i x) := by
                rcases (by omega : i = 0 ∨ i = 1 ∨ i = 2 ∨ i = 3) with rfl | rfl | rfl | rfl <;> rfl
              rw [hset] at b3
              have M1 := Lib.hid (u3.keep Z1.out (by simp; exact hs.out.2.2))
              have M2 := Lib.hid b3
              have BB3 := Lib.hid (u3.keep BB2.out (by simp; have := lt_of_block BB.out; have := hs.out.2.1; omega))
              have X33 := Lib.hid (u3.keep X32.out (by simp; have := lt_of_block X3.out; have := hs.out.2.1; omega))
              have U3 := Lib.hid (UW.out.then u3 (fun y hy hlt => by simp at hy; omega))
              clear b3 u3 z3 hset Z1 Z2 BB2 X32 UW
              have ln : ([nBase, nBase, nBase, nBase].set i x).length = 4 := by simp
              generalize hml : [nBase, nBase, nBase, nBase].set i x = ml at M2 ln
              clear hml
              have SAME : ∀ w' n1 n2, Upd [] w3 w' → w'.heap[n1]? = some (.cells (nums .u32 [1, 2, 3]) 22 (0, 0)) → w'.heap[n2]? = some (.cells (nums .u32 [1, 2, 3 + kk]) 22 (0, 0)) →
                  Calls Try.prog 8 #[.slice (some ⟨s1, 0, none⟩) 4 4, .slice (some ⟨s2, 0, none⟩) (i + 1) 4, .slice (some ⟨n1, 0, none⟩) i 3, .slice (some ⟨n2, 0, none⟩) 3 3, .agg (StV.arr ⟨i, List.replicate 32 0, List.replicate 5 0, none, [], 0⟩), .agg (StV.arr ⟨k, List.replicate 32 0, List.replicate 5 0, none, [], 0⟩)] w' fun e w'' => e = .returned (.bool true) ∧ Below w'.heap.size w' w'' := fun w' n1 n2 u h1 h2 => by
                have e1 : (ml.take (i + 1)).length = i + 1 := by rw [List.length_take, ln]; omega
                have e2 : ([1, 2, 3].take i).length = i := by rw [List.length_take]; simp; omega
                have := same_calls (some ⟨s1, 0, none⟩) (some ⟨s2, 0, none⟩) (some ⟨n1, 0, none⟩) (some ⟨n2, 0, none⟩) [nBase, nBase, nBase, nBase] (ml.take (i + 1)) ([1, 2, 3].take i) [1, 2, 3 + kk] 4 4 3 3 ⟨i, List.replicate 32 0, List.replicate 5 0, none, [], 0⟩ ⟨k, List.replicate 32 0, List.replicate 5 0, none, [], 0⟩ w'
                  (retsAt_blk (u.keep M1.out (by simp))) (retsAt_take (retsAt_blk (u.keep M2.out (by simp))) _) (NumsAt.take (numsAt_blk h1) _) (numsAt_blk h2) ⟨rfl, rfl, numsAt_nil _ _ _, by simp, by simp⟩ ⟨rfl, rfl, numsAt_nil _ _ _, by simp, by simp⟩ (by simp) (by rw [e1]; omega) (by rw [e2]; omega) (by simp)
                rw [e1, e2] at this
                exact this
              have SAME := Lib.hid SAME
              have h4 : (i : Int) % 4 = (i : Int) := by omega
              clear ln
              go_wp2_with (fail)
              refine wp_region_tree (fun z => ∃ x : Near [] w3, z = x.1) (.two [0, 1, 2, 3, 4, 6, 7, 9, 10, 11, 12, 14, 15, 16, 17, 18, 19] 5 (.one [8] 13 (.one [] 20 (.done [21]))) 13 (.one [] 5 (.one [8] 20 (.done [21])))) (by kernel_rfl) (by kernel_rfl) (by decide) (by kernel_rfl) (fun _ d _ _ _ h => by cases d <;> exact h) ⟨⟨(w3).drew, (Upd.refl _ _).drew⟩, rfl⟩ ?_
              refine tree_two ?_
              simp only [opsAt, List.map_cons, List.map_nil, List.getElem?_toArray, List.getElem?_cons_zero, List.getElem?_cons_succ, Option.getD_some]
              repeat (go_big_quiet_step (fail))
              refine wpQuiet_nil ?_
              refine ⟨?_, ?_⟩
              ·
                go_wp2_with fail
                generalize hW : World.drew (World.alloc w3 _) = W1
                have u1 : Upd [] w3 W1 := by rw [← hW]; exact ((Upd.refl _ _).alloc _).drew
                have z1 : W1.heap[w3.heap.size]? = some (.cells (nums .u32 [1, 2, 3]) 22 (0, 0)) := by rw [← hW]; exact Go.heap_alloc_last w3 _
                have hz : W1.heap.size = w3.heap.size + 1 := by rw [← hW]; simp
                clear hW hz
                refine tree_same ⟨⟨_, u1⟩, rfl⟩ ?_
                refine tree_one ?_
                simp only [opsAt, List.map_cons, List.map_nil, List.getElem?_toArray, List.getElem?_cons_zero, List.getElem?_cons_succ, Option.getD_some]
                repeat (go_big_quiet_step (fail))
                refine wpQuiet_nil ?_
                go_wp2_with fail
                generalize hW : World.alloc W1 _ = W2
                have u2 : Upd [] W1 W2 := by rw [← hW]; exact (Upd.refl _ _).alloc _
                have z2 : W2.heap[W1.heap.size]? = some (.cells (nums .u32 [1, 2, 3 + kk]) 22 (0, 0)) := by rw [← hW]; exact Go.heap_alloc_last W1 _
                replace z1 := u2.keep z1 (by simp)
                have U12 := u1.trans u2
                clear hW u1 u2
                refine tree_same ⟨⟨_, U12⟩, rfl⟩ ?_
                refine tree_one ?_
                simp only [opsAt, List.map_cons, List.map_nil, List.getElem?_toArray, List.getElem?_cons_zero, List.getElem?_cons_succ, Option.getD_some]
                repeat (go_big_quiet_step (fail))
                refine wpQuiet_nil ?_
                go_wp2_with fail
                refine (SAME.out W2 (w3.heap.size) (W1.heap.size) U12 z1 z2).mono ?_
                rintro e W3 ⟨rfl, hb⟩
                have U13 := Lib.hid (U12.trans (Upd.of_below hb))
                clear hb z1 z2 U12
                go_wp2_with fail
                refine tree_same ⟨⟨_, U13.out⟩, rfl⟩ ?_
                refine tree_done ?_
                simp only [opsAt, List.map_cons, List.map_nil, List.getElem?_toArray, List.getElem?_cons_zero, List.getElem?_cons_succ, Option.getD_some]
                repeat (go_big_quiet_step (fail))
                refine wpQuiet_nil ?_
                go_wp2_with fail
                go_roundg (4 - (i + 1))
                case measure => omega
                case rel => exact ⟨i + 1, by go_num, by omega, rfl, Lib.hid (U13.out.keep BB3.out (by simp)), Lib.hid (U13.out.keep X33.out (by simp)), Lib.hid (U3.out.trans U13.out)⟩
              ·
                go_wp2_with fail
                generalize hW : World.drew (World.alloc w3 _) = W1
                have u1 : Upd [] w3 W1 := by rw [← hW]; exact ((Upd.refl _ _).alloc _).drew
                have z1 : W1.heap[w3.heap.size]? = some (.cells (nums .u32 [1, 2, 3 + kk]) 22 (0, 0)) := by rw [← hW]; exact Go.heap_alloc_last w3 _
                have hz : W1.heap.size = w3.heap.size + 1 := by rw [← hW]; simp
                clear hW hz
                refine tree_same ⟨⟨_, u1⟩, rfl⟩ ?_
                refine tree_one ?_
                simp only [opsAt, List.map_cons, List.map_nil, List.getElem?_toArray, List.getElem?_cons_zero, List.getElem?_cons_succ, Option.getD_some]
                repeat (go_big_quiet_step (fail))
                refine wpQuiet_nil ?_
                go_wp2_with fail
                generalize hW : World.alloc W1 _ = W2
                have u2 : Upd [] W1 W2 := by rw [← hW]; exact (Upd.refl _ _).alloc _
                have z2 : W2.heap[W1.heap.size]? = some (.cells (nums .u32 [1, 2, 3]) 22 (0, 0)) := by rw [← hW]; exact Go.heap_alloc_last W1 _
                replace z1 := u2.keep z1 (by simp)
                have U12 := u1.trans u2
                clear hW u1 u2
                refine tree_same ⟨⟨_, U12⟩, rfl⟩ ?_
                refine tree_one ?_
                simp only [opsAt, List.map_cons, List.map_nil, List.getElem?_toArray, List.getElem?_cons_zero, List.getElem?_cons_succ, Option.getD_some]
                repeat (go_big_quiet_step (fail))
                refine wpQuiet_nil ?_
                go_wp2_with fail
                refine (SAME.out W2 (W1.heap.size) (w3.heap.size) U12 z2 z1).mono ?_
                rintro e W3 ⟨rfl, hb⟩
                have U13 := Lib.hid (U12.trans (Upd.of_below hb))
                clear hb z1 z2 U12
                go_wp2_with fail
                refine tree_same ⟨⟨_, U13.out⟩, rfl⟩ ?_
                refine tree_done ?_
                simp only [opsAt, List.map_cons, List.map_nil, List.getElem?_toArray, List.getElem?_cons_zero, List.getElem?_cons_succ, Option.getD_some]
                repeat (go_big_quiet_step (fail))
                refine wpQuiet_nil ?_
                go_wp2_with fail
                go_roundg (4 - (i + 1))
                case measure => omega
                case rel => exact ⟨i + 1, by go_num, by omega, rfl, Lib.hid (U13.out.keep BB3.out (by simp)), Lib.hid (U13.out.keep X33.out (by simp)), Lib.hid (U3.out.trans U13.out)⟩
          · obtain rfl : i = 4 := by omega
            go_wp2_with (fail)
            go_roundg (8 - (k + 1))
            case measure => omega
            case rel => exact ⟨k + 1, by go_num, by omega, rfl, BB, UU⟩
    · obtain rfl : k = 8 := by omega
      clear B
      go_upto_region 30 with (fail)
      go_wp2_with (first
        | go_skip
        | ((with_reducible refine at_st 7 ?_); refine L_store_row 32 (.tmp 7) (.tmp 112) rfl (by kernel_rfl) (wr.heap.size + 1 + 1) 0 rfl zSt.arr.toList 32 (four_allocs wr _ _ _ _).2.2.1 (nSt wr.heap.size [1, 2]).arr rfl 39 info_state rfl (by decide) (StV.arr_one _) ?_)
        | fail)
      intro W1 b2 u2 z2
      rw [spl_all (c := zSt.arr.toList) (vs := (nSt wr.heap.size [1, 2]).arr.toList) rfl] at b2
      have A1 := Lib.hid b2
      have A2 : Hid (W1.heap[wr.heap.size]? = some (.cells (nums .u32 [1, 2]) 22 (0, 0))) := Lib.hid (u2.keep (four_allocs wr _ _ _ _).1 (by simp; omega))
      have A3 : Hid (W1.heap[wr.heap.size + 1]? = some (.cells (nums .u32 [1, 3]) 22 (0, 0))) := Lib.hid (u2.keep (four_allocs wr _ _ _ _).2.1 (by simp))
      have A4 := Lib.hid (u2.keep (four_allocs wr _ _ _ _).2.2.2 (by simp))
      have V1 : Hid (Upd [] wr W1) := Lib.hid (((((((Upd.refl [] wr).alloc _).alloc _).alloc _).alloc _).then u2 (fun x hx hlt => by simp at hx; omega)))
      clear b2 u2 z2
      go_wp2_with (first
        | go_skip
        | ((with_reducible refine at_st 8 ?_); refine L_store_row 32 (.tmp 8) (.tmp 114) rfl (by kernel_rfl) (wr.heap.size + 1 + 1 + 1) 0 rfl zSt.arr.toList 32 A4.out (nSt (wr.heap.size + 1) [1, 3]).arr rfl 39 info_state rfl (by decide) (StV.arr_one _) ?_)
        | fail)
      intro W2 b2 u2 z2
      rw [spl_all (c := zSt.arr.toList) (vs := (nSt (wr.heap.size + 1) [1, 3]).arr.toList) rfl] at b2
      have B1 := Lib.hid (u2.keep A1.out (by simp))
      have B2 := Lib.hid (u2.keep A2.out (by simp; omega))
      have B3 := Lib.hid (u2.keep A3.out (by simp))
      have B4 := Lib.hid b2
      have V2 : Hid (Upd [] wr W2) := Lib.hid (V1.out.then u2 (fun x hx hlt => by simp at hx; omega))
      clear b2 u2 z2 A1 A2 A3 A4 V1
      go_upto_region 33 with (first
        | go_skip
        | ((with_reducible refine at_op 115 ?_); refine L_load 32 (.tmp 7) rfl (by kernel_rfl) _ _ rfl (nSt wr.heap.size [1, 2]).arr (row_range B1.out) Try.underlying32 rfl 39 info_state rfl ?_)
        | ((with_reducible refine at_st 9 ?_); refine L_store_new 32 (.tmp 9) (.tmp 115) rfl (by kernel_rfl) _ (nSt wr.heap.size [1, 2]).arr rfl rfl 39 info_state rfl rfl (StV.arr_one _) ?_))
      generalize hW : World.alloc W2 _ = W3
      have C5 : Hid (W3.heap[W2.heap.size]? = some (.cells (uSt wr.heap.size).arr 32 (0, 0))) := Lib.hid (by rw [← hW]; exact Go.heap_alloc_last W2 _)
      have u3 : Upd [] W2 W3 := by rw [← hW]; exact (Upd.refl _ _).alloc _
      have C1 := Lib.hid (u3.keep B1.out (by simp))
      have C2 := Lib.hid (u3.keep B2.out (by simp))
      have C3 := Lib.hid (u3.keep B3.out (by simp))
      have C4 := Lib.hid (u3.keep B4.out (by simp))
      have V3 := Lib.hid (V2.out.trans u3)
      generalize hb5 : W2.heap.size = b5 at C5 ⊢
      clear hW u3 hb5 B1 B2 B3 B4 V2
      go_upto_region 35 with (first
        | go_skip
        | ((with_reducible refine at_op 118 ?_); refine L_load 32 (.tmp 7) rfl (by kernel_rfl) _ _ rfl (nSt wr.heap.size [1, 2]).arr (row_range C1.out) Try.underlying32 rfl 39 info_state rfl ?_)
        | ((with_reducible refine at_st 10 ?_); refine L_store_new 32 (.tmp 10) (.tmp 118) rfl (by kernel_rfl) _ (nSt wr.heap.size [1, 2]).arr rfl rfl 39 info_state rfl rfl (StV.arr_one _) ?_))
      generalize hW : World.alloc W3 _ = W4
      have D6 : Hid (W4.heap[W3.heap.size]? = some (.cells (vSt wr.heap.size).arr 32 (0, 0))) := Lib.hid (by rw [← hW]; exact Go.heap_alloc_last W3 _)
      have u4 : Upd [] W3 W4 := by rw [← hW]; exact (Upd.refl _ _).alloc _
      have D1 := Lib.hid (u4.keep C1.out (by simp))
      have D2 := Lib.hid (u4.keep C2.out (by simp))
      have D3 := Lib.hid (u4.keep C3.out (by simp))
      have D4 := Lib.hid (u4.keep C4.out (by simp))
      have D5 := Lib.hid (u4.keep C5.out (by simp))
      have V4 := Lib.hid (V3.out.trans u4)
      generalize hb6 : W3.heap.size = b6 at D6 ⊢
      clear hW u4 hb6 C1 C2 C3 C4 C5 V3
      have VV := Lib.hid (U.out.trans V4.out)
      clear U V4
      generalize hb2 : wr.heap.size = b2 at D1 D2 D3 D4 D5 D6 ⊢
      clear hb2 hg h8 hk
      have e1 : stEq (nSt b2 [1, 2]) (nSt (b2 + 1) [1, 3]) = false := rfl
      have e2 : stEq (nSt b2 [1, 2]) (uSt b2) = false := rfl
      have e3 : stEq (nSt b2 [1, 2]) (vSt b2) = false := rfl
      have e5 : stEq (nSt b2 [1, 2]) (nSt b2 [1, 2]) = true := rfl
      have ok1 : ∀ wz : World, Upd [] W4 wz → (nSt b2 [1, 2]).OK wz := fun wz u => ⟨rfl, rfl, numsAt_blk (u.keep D2.out (by simp)), by simp [nSt, uSt, vSt], by simp [nSt, uSt, vSt]⟩
      have ok2 : ∀ wz : World, Upd [] W4 wz → (nSt (b2 + 1) [1, 3]).OK wz := fun wz u => ⟨rfl, rfl, numsAt_blk (u.keep D3.out (by simp)), by simp [nSt, uSt, vSt], by simp [nSt, uSt, vSt]⟩
      have ok3 : ∀ wz : World, Upd [] W4 wz → (uSt b2).OK wz := fun wz u => ⟨rfl, rfl, numsAt_blk (u.keep D2.out (by simp)), by simp [nSt, uSt, vSt], by simp [nSt, uSt, vSt]⟩
      have ok4 : ∀ wz : World, Upd [] W4 wz → (vSt b2).OK wz := fun wz u => ⟨rfl, rfl, numsAt_blk (u.keep D2.out (by simp)), by simp [nSt, uSt, vSt], by simp [nSt, uSt, vSt]⟩
      have OK1 := Lib.hid ok1
      have OK2 := Lib.hid ok2
      have OK3 := Lib.hid ok3
      have OK4 := Lib.hid ok4
      clear ok1 ok2 ok3 ok4
      go_wp2_with (first
        | go_skip
        | ((with_reducible refine at_op 121 ?_); refine L_load 32 (.tmp 7) rfl (by kernel_rfl) _ _ rfl ((nSt b2 [1, 2])).arr (row_range (D1.out)) Try.underlying32 rfl 39 info_state rfl ?_)
        | ((with_reducible refine at_op 122 ?_); refine L_load 32 (.tmp 8) rfl (by kernel_rfl) _ _ rfl ((nSt (b2 + 1) [1, 3])).arr (row_range (D4.out)) Try.underlying32 rfl 39 info_state rfl ?_)
        | fail)
      refine (States_calls (nSt b2 [1, 2]) (nSt (b2 + 1) [1, 3]) W4 (OK1.out _ (Upd.refl _ _)) (OK2.out _ (Upd.refl _ _))).mono ?_
      rintro e W5 ⟨rfl, hb⟩
      have N5 := Lib.hid ((Upd.refl [] W4).trans (Upd.of_below hb))
      clear hb
      rw [e1]
      go_wp2_with (first
        | go_skip
        | ((with_reducible refine at_op 126 ?_); refine L_load 32 (.tmp 7) rfl (by kernel_rfl) _ _ rfl ((nSt b2 [1, 2])).arr (row_range ((N5.out.keep D1.out (by simp)))) Try.underlying32 rfl 39 info_state rfl ?_)
        | ((with_reducible refine at_op 127 ?_); refine L_load 32 (.tmp 9) rfl (by kernel_rfl) _ _ rfl ((uSt b2)).arr (row_range ((N5.out.keep D5.out (by simp)))) Try.underlying32 rfl 39 info_state rfl ?_)
        | fail)
      refine (States_calls (nSt b2 [1, 2]) (uSt b2) W5 (OK1.out _ N5.out) (OK3.out _ N5.out)).mono ?_
      rintro e W6 ⟨rfl, hb⟩
      have N6 := Lib.hid (N5.out.trans (Upd.of_below hb))
      clear hb
      rw [e2]
      go_wp2_with (first
        | go_skip
        | ((with_reducible refine at_op 132 ?_); refine L_load 32 (.tmp 7) rfl (by kernel_rfl) _ _ rfl ((nSt b2 [1, 2])).arr (row_range ((N6.out.keep D1.out (by simp)))) Try.underlying32 rfl 39 info_state rfl ?_)
        | ((with_reducible refine at_op 133 ?_); refine L_load 32 (.tmp 10) rfl (by kernel_rfl) _ _ rfl ((vSt b2)).arr (row_range ((N6.out.keep D6.out (by simp)))) Try.underlying32 rfl 39 info_state rfl ?_)
        | fail)
      refine (States_calls (nSt b2 [1, 2]) (vSt b2) W6 (OK1.out _ N6.out) (OK4.out _ N6.out)).mono ?_
      rintro e W7 ⟨rfl, hb⟩
      have N7 := Lib.hid (N6.out.trans (Upd.of_below hb))
      clear hb
      rw [e3]
      go_wp2_with (first
        | go_skip
        | ((with_reducible refine at_op 138 ?_); refine L_load 32 (.tmp 7) rfl (by kernel_rfl) _ _ rfl ((nSt b2 [1, 2])).arr (row_range ((N7.out.keep D1.out (by simp)))) Try.underlying32 rfl 39 info_state rfl ?_)
        | fail)
      have z1 : (W7.alloc (.cells (nums .u32 [1]) 22)).heap[W7.heap.size]? = some (.cells (nums .u32 [1]) 22 (0, 0)) := Go.heap_alloc_last W7 _
      have N7a := Lib.hid (N7.out.alloc (.cells (nums .u32 [1]) 22))
      have e4 : stEq (nSt b2 [1, 2]) (oSt W7.heap.size) = false := rfl
      refine (States_calls (nSt b2 [1, 2]) (oSt W7.heap.size) (W7.alloc (.cells (nums .u32 [1]) 22)) (OK1.out _ N7a.out) ⟨rfl, rfl, numsAt_blk z1, by simp [oSt], by simp [oSt]⟩).mono ?_
      rintro e W8 ⟨rfl, hb⟩
      have N8 := Lib.hid (N7a.out.trans (Upd.of_below hb))
      clear hb z1 N7a
      rw [e4]
      go_wp2_with (first
        | go_skip
        | ((with_reducible refine at_op 145 ?_); refine L_load 32 (.tmp 7) rfl (by kernel_rfl) _ _ rfl ((nSt b2 [1, 2])).arr (row_range ((N8.out.keep D1.out (by simp)))) Try.underlying32 rfl 39 info_state rfl ?_)
        | ((with_reducible refine at_op 146 ?_); refine L_load 32 (.tmp 7) rfl (by kernel_rfl) _ _ rfl ((nSt b2 [1, 2])).arr (row_range ((N8.out.keep D1.out (by simp)))) Try.underlying32 rfl 39 info_state rfl ?_)
        | fail)
      refine (States_calls (nSt b2 [1, 2]) (nSt b2 [1, 2]) W8 (OK1.out _ N8.out) (OK1.out _ N8.out)).mono ?_
      rintro e W9 ⟨rfl, hb⟩
      have N9 := Lib.hid (N8.out.trans (Upd.of_below hb))
      clear hb
      rw [e5]
      go_wp2_with (fail)
      refine (known_calls W9).mono ?_
      rintro e W10 ⟨rfl, hb⟩
      have N10 := Lib.hid (N9.out.trans (Upd.of_below hb))
      clear hb
      go_wp2
      go_ret
      exact ⟨rfl, (VV.out.trans N10.out).below⟩
end Go.Proofs.Ytgdmmhedcklkaaa
