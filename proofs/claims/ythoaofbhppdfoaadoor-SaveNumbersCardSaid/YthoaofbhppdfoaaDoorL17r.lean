/- The store of one number into a cell of a known block, at the list of a region's operations. -/
import Derived.Test.YthoaofbhppdfoaaDoorCel
import Derived.Test.YthoaofbhppdfoaaDoorRow
import Derived.Test.YthoaofbhppdfoaaDoorAt
import Derived.Test.YthoaofbhppdfoaaDoorL17q
import Derived.Test.YthoaofbhppdfoaaDoorL17k
namespace Go.Dio
open Go Go.RowKit

theorem run_storeAt_int {P : Program} (w : World) (b o : Nat) (ty : TypeId) (k : IntKind) (n : Int) (ht : w.there b o 1) (hi : (P.info? ty).map (·.size) = some 1) :
    (Instr.storeAt ty (.pointer (some ⟨b, o, none⟩)) (.int k n)).run P w = .ok () (w.setCell ⟨b, o, none⟩ (.int k n)) := by
  have := run_storeCells_cells (P := P) b o [.int k n] 0 w (fun j hj => by simpa using (ht j (by simpa using hj)).1) (fun j hj => by simpa using (ht j (by simpa using hj)).2)
    (fun v hv => by simp at hv; subst hv; rfl)
  cases hq : P.info? ty with
  | none => simp [hq] at hi
  | some i =>
    have hs : i.size = 1 := by simpa [hq] using hi
    simp only [Nat.add_zero] at this
    simp only [Instr.storeAt, Instr.sureAddr, Sem.run_bind, Sem.run_pure, Result.andThen_ok]
    simpa [storeVar, sizeOf, typeInfo, hq, Value.cells, hs, World.setCells] using this

theorem L_store_int {P : Program} {ops : Array Oper} {rest : List Oper} {o : Oper} {a : Act} {w : World} {Q : Exit → Act → World → Prop} (ty : TypeId) (x y : Operand) (ho : o.op = .store ty x y) (hw : Region.wanted o (yielded ops a.tmps) = true)
    (b off : Nat) (hx : a.eval x = .pointer (some ⟨b, off, none⟩)) (c : List Value) (t : TypeId) (hb : w.heap[b]? = some (.cells c.toArray t (0, 0))) (k : IntKind) (n : Int) (hy : a.eval y = .int k n)
    (hi : (P.info? ty).map (·.size) = some 1) (hle : off < c.length)
    (h : ∀ w', w'.heap[b]? = some (.cells (c.set off (.int k n)).toArray t (0, 0)) → Upd [b] w w' → w'.heap.size = w.heap.size → wpList P ops Q rest (a.put o.dst undef) w') : wpList P ops Q (o :: rest) a w :=
  wpList_step fun K hK => by
    rw [if_pos hw]
    have hth : w.there b off 1 := fun j hj => by
      refine ⟨?_, free_of hb _⟩
      rw [cells_of hb]
      simp only [List.getElem?_toArray, Option.isSome_iff_exists]
      exact ⟨_, List.getElem?_eq_getElem (by omega)⟩
    unfold Oper.wp execOp
    simp only [ho, hx, hy, Sem.run_bind, run_storeAt_int w b off ty k n hth hi, Result.andThen_ok, Sem.run_pure]
    refine hK _ _ (h _ ?_ ((Upd.refl [b] w).setCell (p := ⟨b, off, none⟩) (by simp) _) (by simp [World.setCell]))
    rw [heap_setCell_eq hb]; simp
end Go.Dio

namespace Go.Proofs.YthoaofbhppdfoaaDoor
open Go.RowKit Go.Dio
set_option linter.unusedSimpArgs false
set_option linter.unusedVariables false

theorem AskS.set_reg (x : AskS) (h : x.regs.length = 32) (r v : Nat) (hr : r < 32) : x.cells.set (3 + r) (.int .u32 (v : Int)) = (⟨x.kind, x.n, x.pc, x.regs.set r v, x.csrs⟩ : AskS).cells := by
  have e : vals .u32 (x.regs.set r v) = (vals .u32 x.regs).set r (.int .u32 (v : Int)) := by simp [vals, List.map_set]
  have hl : r < (vals .u32 x.regs).length := by rw [vals_length, h]; exact hr
  simp only [AskS.cells, e]
  rw [List.set_append_right _ _ (by simp), List.set_append_left _ _ (by simpa using hl)]
  simp
theorem AskS.set_csr (x : AskS) (h : x.regs.length = 32) (hc : x.csrs.length = 5) (c v : Nat) (hr : c < 5) : x.cells.set (35 + c) (.int .u32 (v : Int)) = (⟨x.kind, x.n, x.pc, x.regs, x.csrs.set c v⟩ : AskS).cells := by
  have e : vals .u32 (x.csrs.set c v) = (vals .u32 x.csrs).set c (.int .u32 (v : Int)) := by simp [vals, List.map_set]
  simp only [AskS.cells, e]
  rw [List.set_append_right _ _ (by simp; omega), List.set_append_right _ _ (by simp [vals_length, h]; omega)]
  congr 2
  simp [vals_length, h]
  congr 1
  omega
theorem AskS.set_n (x : AskS) (n : Int) : x.cells.set 1 (.int .i64 n) = (⟨x.kind, n, x.pc, x.regs, x.csrs⟩ : AskS).cells := rfl
theorem AskS.at' {w : World} {q : Nat} {x : AskS} (hx : x.cells.length = 40) (h : w.heap[q]? = some (.cells x.cells.toArray 30 (0, 0))) (o : Nat) (ho : o < 40) : ∃ v, w.cell? ⟨q, o, none⟩ = some v ∧ w.frozen? ⟨q, o, none⟩ = false := by
  refine ⟨x.cells[o]'(by omega), ?_, free_of h o⟩
  rw [cells_of h]; simp
theorem w64 (n : Nat) (h : n < 2 ^ 62) : RowKit.wrap64 (n : Int) = (n : Int) := by unfold RowKit.wrap64; omega
theorem tm7 (s : Nat) : ((s : Int)).tmod 7 = ((s % 7 : Nat) : Int) := by rw [Int.tmod_eq_emod_of_nonneg (Int.natCast_nonneg s)]; omega
theorem ne1 (c r : Nat) (h : r < 32) : ¬ (35 + c = 3 + r) := by omega
theorem ne3 (c : Nat) : ¬ (3 = 35 + c) := by omega
theorem lt3 (r : Nat) (h : r < 32) : 3 + r < 40 := by omega
theorem lt35 (c : Nat) (h : c < 5) : 35 + c < 40 := by omega
theorem tm3085 (s : Nat) : ((s : Int)).tmod 3085 = ((s % 3085 : Nat) : Int) := by rw [Int.tmod_eq_emod_of_nonneg (Int.natCast_nonneg s)]; omega
theorem ask_ok (kd n : Int) (pc r c ki i : Nat) (h1 : 0 ≤ kd ∧ kd < 7) (h2 : 0 ≤ n ∧ n < 4000) (h3 : pc < 200) (hk : ki ≤ 2000) (hi : i ≤ 50) : AskS.Ok ⟨kd, n, pc, ((List.replicate 32 0).set r ki).set 0 5, (List.replicate 5 0).set c i⟩ := by
  refine ⟨by simp only; omega, by simp only; omega, by simp only; omega, by simp, by simp, fun x hx => ?_, fun x hx => ?_⟩
  · rcases List.mem_or_eq_of_mem_set hx with h | h
    · rcases List.mem_or_eq_of_mem_set h with h | h
      · have := List.eq_of_mem_replicate h; omega
      · omega
    · omega
  · rcases List.mem_or_eq_of_mem_set hx with h | h
    · have := List.eq_of_mem_replicate h; omega
    · omega
theorem stop_here {p : Prop} (h : True → p) : p := h trivial
theorem fold_spl : ∀ (vs : List Value) (o : Nat) (c : List Value), o + vs.length ≤ c.length → (vs.zipIdx o).foldl (fun (cs : Array Value) (x : Value × Nat) => cs.setIfInBounds x.2 x.1) c.toArray = (spl c o vs).toArray
  | [], o, c, _ => by rw [spl_nil]; rfl
  | v :: vs, o, c, h => by
    simp only [List.length_cons] at h
    rw [List.zipIdx_cons, List.foldl_cons]
    have e : c.toArray.setIfInBounds o v = (c.set o v).toArray := by simp
    rw [e, fold_spl vs (o + 1) (c.set o v) (by simp; omega), spl_cons (by omega)]
theorem fold40 (Z : List Value) (C : Array Value) (h : C.size = 40) (hz : Z.length = 40) : Array.foldl (fun (cs : Array Value) (x : Value × Nat) => cs.setIfInBounds x.snd x.fst) Z.toArray C.zipIdx 0 40 = C := by
  have e := fold_spl C.toList 0 Z (by simp [hz, h])
  rw [spl_all (by simp [h, hz])] at e
  have e2 : Array.foldl (fun (cs : Array Value) (x : Value × Nat) => cs.setIfInBounds x.snd x.fst) Z.toArray C.zipIdx 0 40 = (C.toList.zipIdx 0).foldl (fun (cs : Array Value) (x : Value × Nat) => cs.setIfInBounds x.2 x.1) Z.toArray := by
    obtain ⟨l⟩ := C
    have h2 : l.length = 40 := by simpa using h
    rw [show (40 : Nat) = ((⟨l⟩ : Array Value).zipIdx).size by simp [h2]]
    simp
  rw [e2, e]
def askVals17 (l : List AskS) : List Value := l.flatMap fun x => x.cells
theorem askVals17_append (l m : List AskS) : askVals17 (l ++ m) = askVals17 l ++ askVals17 m := by simp [askVals17]
theorem askVals17_len : ∀ l : List AskS, (∀ x ∈ l, x.Ok) → (askVals17 l).length = l.length * 40
  | [], _ => rfl
  | x :: t, h => by
    show (x.cells ++ askVals17 t).length = _
    rw [List.length_append, askVals17_len t (fun y hy => h y (List.mem_cons_of_mem _ hy)), AskS.cells_len (h x (List.mem_cons_self ..)), List.length_cons]; omega
theorem askVals17_at : ∀ (l : List AskS) (k j : Nat) (v : Value), (∀ x ∈ l, x.Ok) → k < l.length → (askSN l k).cells[j]? = some v → (askVals17 l)[k * 40 + j]? = some v
  | x :: t, 0, j, v, h, _, hv => by
    show (x.cells ++ askVals17 t)[0 * 40 + j]? = _
    have hv' : x.cells[j]? = some v := hv
    have hj : j < x.cells.length := by
      rcases Nat.lt_or_ge j x.cells.length with h1 | h1
      · exact h1
      · rw [List.getElem?_eq_none h1] at hv'; cases hv'
    rw [Nat.zero_mul, Nat.zero_add, List.getElem?_append_left hj]; exact hv'
  | x :: t, k + 1, j, v, h, hk, hv => by
    show (x.cells ++ askVals17 t)[(k + 1) * 40 + j]? = _
    have e := AskS.cells_len (h x (List.mem_cons_self ..))
    rw [List.getElem?_append_right (by rw [e]; omega), e, show (k + 1) * 40 + j - 40 = k * 40 + j by omega]
    exact askVals17_at t k j v (fun y hy => h y (List.mem_cons_of_mem _ hy)) (by simpa using hk) hv
theorem asks_of_own17 {w : World} {base T : Nat} {v : Value} {n : Nat} {l : List AskS} (hok : ∀ x ∈ l, x.Ok) (h : w.ownsRow base T 40 v n (askVals17 l)) : ∃ A cap, v = .slice A n cap ∧ n = l.length ∧ AsksSAt w A l := by
  have hn : n = l.length := by have := h.1; rw [askVals17_len l hok] at this; omega
  rcases h.2 with ⟨rfl, h0⟩ | ⟨g, cap, cur, rfl, hg, hh, hc1, hc2, _, _⟩
  · exact ⟨none, 0, by rw [h0], hn, fun h1 => by omega⟩
  · refine ⟨some ⟨g, 0, none⟩, cap, rfl, hn, fun _ => ⟨g, 0, rfl, lt_of_block hh, fun k hk j u hu => ?_⟩⟩
    have := h.cells (g := g) rfl (k * 40 + j) u (askVals17_at l k j u hok hk hu)
    rw [Addr.add_mid] at this
    rw [← this]; congr 2; omega
theorem asksOk17 {l : List AskS} (h : ∀ x ∈ l, x.Ok) : AsksSOk l := fun k => by
  unfold askSN
  rw [List.getD_eq_getElem?_getD]
  rcases Nat.lt_or_ge k l.length with h1 | h1
  · rw [List.getElem?_eq_getElem h1]; exact h _ (List.getElem_mem h1)
  · rw [List.getElem?_eq_none h1]; exact AskS.zero_ok
theorem info_askF : (Tryd.prog.info? 30).map (fun i => (i.zero, i.size, i.bytes)) = some (some (.agg AskS.zero.cells.toArray), 40, 168) := by kernel_rfl
theorem AskS.one' (x : AskS) : ∀ u ∈ x.cells, u.oneCell' = true := fun u hu => Array.all_eq_true_iff_forall_mem.1 (AskS.one x) u (by simpa using hu)
set_option maxRecDepth 20000 in
set_option maxHeartbeats 4000000 in
theorem asks17_calls (k : Nat) (w : World) (hk : k < 40) :
    Calls Tryd.prog 5 #[.int .i64 (k : Int)] w fun e w' => ∃ A cap l, e = .returned (.slice A l.length cap) ∧ Upd [] w w' ∧ AsksSAt w' A l ∧ AsksSOk l ∧ l.length = 50 := by
  go_enter Tryd.func5, Tryd.ntmps5
  go_wp2_with (fail)
  go_loopg [3, 4] 50 (fun g v3 v4 wl => ∃ (i : Nat) (l : List AskS) (u3 : Value), u3 = v3 ∧ v4 = .int .i64 (i : Int) ∧ i ≤ 50 ∧ g = 50 - i ∧ l.length = i ∧ Hid (∀ x ∈ l, x.Ok) ∧ Hid (wl.ownsRow w.heap.size 30 40 u3 i (askVals17 l)) ∧ Hid (Upd [] w wl))
  case atStart => exact ⟨0, [], _, rfl, rfl, by omega, rfl, rfl, Lib.hid (fun x hx => by cases hx), Lib.hid (World.ownsRow_nil _ _ _ _), Lib.hid (Upd.refl _ _)⟩
  case round =>
    obtain ⟨i, l, u3, rfl, rfl, hi, hg, hl, HOK, HO, U⟩ := hrel
    rcases Nat.lt_or_ge i 50 with hlt | hge
    · have di : decide ((i : Int) < 50) = true := decide_eq_true (by omega)
      obtain ⟨ii, hii⟩ : ∃ ii : Nat, ii = i * i := ⟨_, rfl⟩
      obtain ⟨ki, hki⟩ : ∃ ki : Nat, ki = k * i := ⟨_, rfl⟩
      have bii : ii ≤ 2500 := by rw [hii]; exact Nat.le_trans (Nat.mul_le_mul (show i ≤ 50 by omega) (show i ≤ 50 by omega)) (by decide)
      have bki : ki ≤ 2000 := by rw [hki]; exact Nat.le_trans (Nat.mul_le_mul (show k ≤ 40 by omega) (show i ≤ 50 by omega)) (by decide)
      have e1 : RowKit.wrap64 ((i : Int) * (i : Int)) = (ii : Int) := by rw [← Int.natCast_mul, ← hii]; exact w64 _ (by omega)
      have e2 : RowKit.wrap64 ((k : Int) * (i : Int)) = (ki : Int) := by rw [← Int.natCast_mul, ← hki]; exact w64 _ (by omega)
      have e2' : RowKit.wrap64 ((i : Int) * (k : Int)) = (ki : Int) := by rw [Int.mul_comm]; exact e2
      clear hii hki
      obtain ⟨s, hs⟩ : ∃ s : Nat, s = ii + ki := ⟨_, rfl⟩
      have e3 : RowKit.wrap64 ((ii : Int) + (ki : Int)) = (s : Int) := by rw [← Int.natCast_add, ← hs]; exact w64 _ (by omega)
      obtain ⟨kd, hkd⟩ : ∃ kd : Nat, kd = s % 7 := ⟨_, rfl⟩
      have e4 : ((s : Int)).tmod 7 = (kd : Int) := by rw [hkd]; exact tm7 s
      obtain ⟨pc, hpc⟩ : ∃ pc : Nat, pc = i * 4 := ⟨_, rfl⟩
      have e6 : (i : Int) * 4 = (pc : Int) := by omega
      have hk7 : kd < 7 := by rw [hkd]; exact Nat.mod_lt _ (by decide)
      have bpc : pc < 200 := by omega
      have K7 := Lib.hid hk7
      have BPC := Lib.hid bpc
      have BKI := Lib.hid bki
      have BII := Lib.hid bii
      clear hs hkd hpc hk7 bpc bki bii
      go_upto_region 6 with (first
        | go_skip
        | ((with_reducible refine at_st 5 ?_); refine stop_here ?_)
        | fail)
      intro _
      refine L_store_new 30 (.tmp 5) (.tmp 24) rfl (by kernel_rfl) AskS.zero.cells.toArray (AskS.cells ⟨(kd : Int), (ki : Int), pc, List.replicate 32 0, List.replicate 5 0⟩).toArray rfl rfl 40 info_askS rfl rfl (AskS.one _) ?_
      go_upto_region 6 with (fail)
      have B := Go.heap_alloc_last wr (.cells (AskS.cells ⟨(kd : Int), (ki : Int), pc, List.replicate 32 0, List.replicate 5 0⟩).toArray 30)
      have O1 := Lib.hid (HO.out.alloc (.cells (AskS.cells ⟨(kd : Int), (ki : Int), pc, List.replicate 32 0, List.replicate 5 0⟩).toArray 30))
      have U1 := Lib.hid (U.out.alloc (.cells (AskS.cells ⟨(kd : Int), (ki : Int), pc, List.replicate 32 0, List.replicate 5 0⟩).toArray 30))
      have hwq : w.heap.size ≤ wr.heap.size := U.out.size
      have low : Hid (∀ g, u3.ownBlock = some g → g < wr.heap.size) := Lib.hid (fun g hg => (HO.out.lt g hg).2)
      generalize wr.alloc (.cells (AskS.cells ⟨(kd : Int), (ki : Int), pc, List.replicate 32 0, List.replicate 5 0⟩).toArray 30) = W at B O1 U1 ⊢
      generalize wr.heap.size = q at B hwq low ⊢
      have HB := Lib.hid B
      clear B HO U
      obtain ⟨r, hr⟩ : ∃ r : Nat, r = i % 32 := ⟨_, rfl⟩
      obtain ⟨c5, hc5⟩ : ∃ c : Nat, c = i % 5 := ⟨_, rfl⟩
      have e8 : (i : Int) % 32 = (r : Int) := by omega
      have e9 : (i : Int) % 5 = (c5 : Int) := by omega
      have hr32 : r < 32 := by rw [hr]; exact Nat.mod_lt _ (by decide)
      have hc55 : c5 < 5 := by rw [hc5]; exact Nat.mod_lt _ (by decide)
      clear hr hc5
      have e10 : IntKind.u32.wrap (ki : Int) = (ki : Int) := by have := BKI.out; rw [IntKind.wrap_u32]; omega
      have i1 : (Tryd.prog.info? 26).map (·.size) = some 1 := by kernel_rfl
      have I1 := Lib.hid i1
      have hsr := AskS.set_reg ⟨(kd : Int), (ki : Int), pc, List.replicate 32 0, List.replicate 5 0⟩ rfl r ki hr32
      have hl1 : (AskS.cells ⟨(kd : Int), (ki : Int), pc, List.replicate 32 0, List.replicate 5 0⟩).length = 40 := rfl
      have h3r : 3 + r < 40 := lt3 r hr32
      generalize AskS.cells ⟨(kd : Int), (ki : Int), pc, List.replicate 32 0, List.replicate 5 0⟩ = C0 at HB hsr hl1
      have HSR := Lib.hid hsr
      have HL1 := Lib.hid hl1
      clear hsr hl1 i1
      go_wp2_with (first
        | go_skip
        | ((with_reducible refine at_st 36 ?_); refine L_store_int 26 (.tmp 36) (.tmp 32) rfl (by kernel_rfl) q (3 + r) rfl C0 30 HB.out .u32 (ki : Int) rfl I1.out (by rw [HL1.out]; exact h3r) ?_)
        | fail)
      intro W1 b1 u1 z1
      rw [HSR.out] at b1
      have U2 := Lib.hid u1
      have B1 := Lib.hid b1
      clear b1 u1 z1 HB HSR HL1
      have hsc := AskS.set_csr ⟨(kd : Int), (ki : Int), pc, (List.replicate 32 0).set r ki, List.replicate 5 0⟩ (by simp) (by simp) c5 i hc55
      have hl2 : (AskS.cells ⟨(kd : Int), (ki : Int), pc, (List.replicate 32 0).set r ki, List.replicate 5 0⟩).length = 40 := by simp [AskS.cells, vals]
      have h35 := lt35 c5 hc55
      generalize AskS.cells ⟨(kd : Int), (ki : Int), pc, (List.replicate 32 0).set r ki, List.replicate 5 0⟩ = C1 at B1 hsc hl2
      have HSC := Lib.hid hsc
      have HL2 := Lib.hid hl2
      clear hsc hl2
      go_wp2_with (first
        | go_skip
        | ((with_reducible refine at_st 38 ?_); refine L_store_int 26 (.tmp 38) (.tmp 34) rfl (by kernel_rfl) q (35 + c5) rfl C1 30 B1.out .u32 (i : Int) rfl I1.out (by rw [HL2.out]; exact h35) ?_)
        | fail)
      intro W2 b2 u2 z2
      rw [HSC.out] at b2
      have U3 := Lib.hid (U2.out.trans u2)
      have B2 := Lib.hid b2
      clear b2 u2 z2 B1 HSC HL2 U2
      have hsr := AskS.set_reg ⟨(kd : Int), (ki : Int), pc, (List.replicate 32 0).set r ki, (List.replicate 5 0).set c5 i⟩ (by simp) 0 5 (by decide)
      have hl3 : (AskS.cells ⟨(kd : Int), (ki : Int), pc, (List.replicate 32 0).set r ki, (List.replicate 5 0).set c5 i⟩).length = 40 := by simp [AskS.cells, vals]
      generalize AskS.cells ⟨(kd : Int), (ki : Int), pc, (List.replicate 32 0).set r ki, (List.replicate 5 0).set c5 i⟩ = C2 at B2 hsr hl3
      have HSR := Lib.hid hsr
      have HL3 := Lib.hid hl3
      clear hsr hl3
      go_wp2_with (first
        | go_skip
        | ((with_reducible refine at_st 40 ?_); refine L_store_int 26 (.tmp 40) (.const (.int .u32 5)) rfl (by kernel_rfl) q 3 rfl C2 30 B2.out .u32 5 rfl I1.out (by rw [HL3.out]; decide) ?_)
        | fail)
      intro W3 b3 u3' z3
      rw [show C2.set 3 (.int .u32 5) = _ from HSR.out] at b3
      have U4 := Lib.hid (U3.out.trans u3')
      have B3 := Lib.hid b3
      clear b3 u3' z3 B2 HSR HL3 U3
      have c0 : W3.cell? ⟨q, 0, none⟩ = some (.int .i64 (kd : Int)) := by rw [cells_of B3.out]; rfl
      go_upto_if 43 with (fail)
      have hX3 := ask_ok (kd : Int) (ki : Int) pc r c5 ki i (by have := K7.out; omega) (by have := BKI.out; omega) BPC.out BKI.out (by omega)
      have hXn := fun (n2 : Nat) (h : n2 < 3085) => ask_ok (kd : Int) (n2 : Int) pc r c5 ki i (by have := K7.out; omega) (by omega) BPC.out BKI.out (by omega)
      have hsn := fun (n2 : Nat) => AskS.set_n ⟨(kd : Int), (ki : Int), pc, ((List.replicate 32 0).set r ki).set 0 5, (List.replicate 5 0).set c5 i⟩ (n2 : Int)
      simp only at hsn
      generalize hX : (⟨(kd : Int), (ki : Int), pc, ((List.replicate 32 0).set r ki).set 0 5, (List.replicate 5 0).set c5 i⟩ : AskS) = X at hX3 B3 hsn
      have HXN := Lib.hid hXn
      have HX3 := Lib.hid hX3
      have HSN := Lib.hid hsn
      clear hXn hX3 hsn hX
      go_cut [44] (fun v44 wc => ∃ Y : AskS, Y.Ok ∧ Hid (wc.heap[q]? = some (.cells Y.cells.toArray 30 (0, 0))) ∧ Hid (Upd [q] W wc))
      case first =>
        rcases Nat.lt_or_ge 4 kd with h4 | h4
        · have d4 : decide ((4 : Int) < (kd : Int)) = true := decide_eq_true (by omega)
          simp only [d4]
          obtain ⟨p31, hp31⟩ : ∃ p : Nat, p = ii * 31 := ⟨_, rfl⟩
          obtain ⟨k97, hk97⟩ : ∃ p : Nat, p = k * 97 := ⟨_, rfl⟩
          obtain ⟨sm, hsm⟩ : ∃ p : Nat, p = p31 + k97 := ⟨_, rfl⟩
          obtain ⟨n2, hn2⟩ : ∃ p : Nat, p = sm % 3085 := ⟨_, rfl⟩
          have bb := BII.out
          have e11 : RowKit.wrap64 ((ii : Int) * 31) = (p31 : Int) := by rw [show (ii : Int) * 31 = (p31 : Int) by omega]; exact w64 _ (by omega)
          have e12 : (k : Int) * 97 = (k97 : Int) := by omega
          have e13 : RowKit.wrap64 ((p31 : Int) + (k97 : Int)) = (sm : Int) := by rw [← Int.natCast_add, ← hsm]; exact w64 _ (by omega)
          have e14 : ((sm : Int)).tmod 3085 = (n2 : Int) := by rw [hn2]; exact tm3085 sm
          have hn3 : n2 < 3085 := by rw [hn2]; exact Nat.mod_lt _ (by decide)
          have OKN := Lib.hid (HXN.out n2 hn3)
          have HSE := Lib.hid (HSN.out n2)
          have hXl : X.cells.length = 40 := AskS.cells_len HX3.out
          have i64s : (Tryd.prog.info? 3).map (·.size) = some 1 := by kernel_rfl
          have I64S := Lib.hid i64s
          have HXL := Lib.hid hXl
          clear hp31 hk97 hsm hn2 bb hn3 hXl i64s
          go_wp2_with (first
            | go_skip
            | ((with_reducible refine at_st 52 ?_); refine L_store_int 3 (.tmp 52) (.tmp 51) rfl (by kernel_rfl) q 1 rfl X.cells 30 B3.out .i64 (n2 : Int) rfl I64S.out (by rw [HXL.out]; decide) ?_)
            | fail)
          intro W4 b4 u4 z4
          rw [HSE.out] at b4
          have B4 := Lib.hid b4
          have U5 := Lib.hid (U4.out.trans u4)
          clear b4 u4 z4
          go_wp2_with (fail)
          go_meet
          case rel => exact ⟨_, OKN.out, B4, U5⟩
        · have d4 : decide ((4 : Int) < (kd : Int)) = false := decide_eq_false (by omega)
          simp only [d4]
          go_wp2_with (fail)
          go_meet
          case rel => exact ⟨X, HX3.out, B3, U4⟩
      case rest =>
        obtain ⟨Y, HY, BY, UY⟩ := hcut
        clear B3 U4 HXN HX3 HSN I1
        have hyl := AskS.cells_len HY
        have YL := Lib.hid (show Y.cells.toArray.size = 40 by simpa using hyl)
        clear hyl
        go_wp2_with (first
          | go_skip
          | ((with_reducible refine at_op 54 ?_); refine L_load 30 (.tmp 5) rfl (by kernel_rfl) _ _ rfl Y.cells.toArray (row_range BY.out) Tryd.underlying30 rfl 40 info_askS YL.out ?_)
          | ((with_reducible refine at_op 55 ?_); refine stop_here ?_)
          | fail)
        intro _
        refine L_value (by kernel_rfl) (.slice (some ⟨wc.heap.size, 0, none⟩) 1 1) (w' := wc.alloc (.cells Y.cells.toArray 30)) ?bs ?_
        case bs =>
          have hy := YL.out
          generalize Y.cells.toArray = C at hy
          simp [go_sem, hy]
          congr 2
          exact fold40 AskS.zero.cells C hy rfl
        have O2 := Lib.hid ((own_updS O1.out UY.out (fun g hg hx => by have := low.out g hg; simp at hx; omega)).alloc (.cells Y.cells.toArray 30))
        have U6 : Hid (Upd [] w (wc.alloc (.cells Y.cells.toArray 30))) := Lib.hid ((U1.out.then UY.out (fun x hx hlt => by simp at hx; omega)).alloc _)
        have hyl2 : Y.cells.length = 1 * 40 := AskS.cells_len HY
        have HYL2 := Lib.hid hyl2
        clear hyl2
        go_wp2_with ((at_builtin; refine L_append _ (.tmp 53) (.tmp 55) 23 rfl (by kernel_rfl) w.heap.size 30 _ 40 168 Tryd.underlying23 info_askF rfl (by omega) u3 i (askVals17 l) rfl O2.out (some ⟨wc.heap.size, 0, none⟩) 1 1 Y.cells rfl HYL2.out (srcAt_newS wc Y.cells _) (AskS.one' Y) (by simp only [maxLen]; omega) (by omega) U6.out.size ?_))
        intro v' w' own g9 at9
        have OWN : Hid (w'.ownsRow w.heap.size 30 40 v' (i + 1) (askVals17 (l ++ [Y]))) := Lib.hid (by
          rw [askVals17_append, show askVals17 [Y] = Y.cells by simp [askVals17]]; exact own)
        have UZ := Lib.hid (U6.out.grown g9 (fun g hg hlt => by have := (O2.out.lt g hg).1; omega))
        have HOK2 : Hid (∀ x ∈ l ++ [Y], x.Ok) := Lib.hid (fun x hx => by
          rcases List.mem_append.1 hx with h | h
          · exact HOK.out x h
          · simp at h; subst h; exact HY)
        clear own g9 at9
        go_wp2_with (fail)
        go_roundg (50 - (i + 1))
        case measure => omega
        case rel => exact ⟨i + 1, l ++ [Y], v', rfl, by go_num, by omega, rfl, by simp [hl], HOK2, OWN, UZ⟩
    · obtain rfl : i = 50 := by omega
      obtain ⟨A, cap, rfl, hn, hA⟩ := asks_of_own17 HOK.out HO.out
      have HA := Lib.hid hA
      have hok := Lib.hid (asksOk17 HOK.out)
      clear hA hn
      go_wp2_with (fail)
      go_ret
      exact ⟨A, cap, l, by rw [hl]; rfl, U.out, HA.out, hok.out, hl⟩
end Go.Proofs.YthoaofbhppdfoaaDoor

namespace Go.Proofs.YthoaofbhppdfoaaDoor
open Go.RowKit Go.Dio
set_option linter.unusedSimpArgs false
set_option linter.unusedVariables false

def ask0 (k n : Int) (pc : Nat) : AskS := ⟨k, n, pc, List.replicate 32 0, List.replicate 5 0⟩
def script17 (d : Int) : List AskS := [ask0 0 d 8, ask0 3 0 0, ask0 5 5 0, ask0 5 6 0, ask0 3 0 0, ask0 5 1522 0, ask0 5 1523 0, ask0 3 0 0, ask0 0 3 0, ask0 3 0 0, ask0 5 3042 0, ask0 5 3043 0, ask0 3 0 0, ask0 0 4 0, ask0 3 0 0]
theorem script17_ok (d : Int) (hd : -9223372036854775808 ≤ d ∧ d ≤ 9223372036854775807) : ∀ x ∈ script17 d, x.Ok := by
  intro x hx
  simp only [script17, List.mem_cons, List.not_mem_nil, or_false] at hx
  rcases hx with rfl | rfl | rfl | rfl | rfl | rfl | rfl | rfl | rfl | rfl | rfl | rfl | rfl | rfl | rfl
  all_goals exact ⟨by simp [ask0] <;> omega, by simp [ask0] <;> omega, by simp [ask0], rfl, rfl, fun y hy => by have := List.eq_of_mem_replicate hy; omega, fun y hy => by have := List.eq_of_mem_replicate hy; omega⟩
theorem asksAt_blk17 {w : World} {b : Nat} {l : List AskS} {T : TypeId} {fr : Nat × Nat} (hok : ∀ x ∈ l, x.Ok) (h : w.heap[b]? = some (.cells (askVals17 l).toArray T fr)) : AsksSAt w (some ⟨b, 0, none⟩) l := fun _ =>
  ⟨b, 0, rfl, lt_of_block h, fun k hk j u hu => by
    rw [cell_of_row w b _ _ T fr h]
    have := askVals17_at l k j u hok hk hu
    simpa using this⟩
set_option maxRecDepth 20000 in
set_option maxHeartbeats 4000000 in
theorem numbers17_walk (w : World) (hT : Tz w) : Calls Tryd.prog 3 #[] w fun e w' => e = .returned (.bool true) ∧ Below w.heap.size w w' := by
  have HT := Lib.hid hT
  have hz0 := hT.lt
  have TZ := Lib.hid (fun (w' : World) (u : Below w.heap.size w w') => Tz.of_upd (S := []) hT (Upd.of_below u) (fun h => nomatch h))
  clear hT
  go_enter Tryd.func3, Tryd.ntmps3
  go_wp2_with (fail)
  go_loopg [1] 40 (fun g v1 wl => ∃ k : Nat, v1 = .int .i64 (k : Int) ∧ k ≤ 40 ∧ g = 40 - k ∧ Hid (Upd [] w wl))
  case atStart => exact ⟨0, rfl, by omega, rfl, Lib.hid (Upd.refl _ _)⟩
  case round =>
    obtain ⟨k, rfl, hk, hg, U⟩ := hrel
    rcases Nat.lt_or_ge k 40 with hlt | hge
    · have dk : decide ((k : Int) < 40) = true := decide_eq_true (by omega)
      go_wp2_with (fail)
      refine (asks17_calls k wr hlt).mono ?_
      rintro e w1 ⟨A, cap, l, rfl, u1, hA, hok, hl⟩
      have U1 := Lib.hid (U.out.trans u1)
      have P := Lib.hid (play17_calls A l cap w1 hA hok (by omega) (TZ.out _ U1.out.below))
      clear u1 hA hok hl
      go_wp2_with (fail)
      refine P.out.mono ?_
      rintro e w2 ⟨rfl, hb⟩
      have U2 := Lib.hid (U1.out.trans (Upd.of_below hb))
      clear hb P
      go_wp2_with (fail)
      go_roundg (40 - (k + 1))
      case measure => omega
      case rel => exact ⟨k + 1, by go_num, by omega, rfl, U2⟩
    · obtain rfl : k = 40 := by omega
      obtain ⟨wo, rfl⟩ : ∃ wo, wo = wr := ⟨_, rfl⟩
      go_wp2_with (fail)
      have hb := Go.heap_alloc_last wo (.cells #[.int .i64 (-9223372036854775808), .int .i64 (-1), .int .i64 0, .int .i64 65535, .int .i64 65536, .int .i64 2147483647, .int .i64 2147483648, .int .i64 9223372036854775807] 3)
      have u1 : Upd [] wo (wo.alloc (.cells #[.int .i64 (-9223372036854775808), .int .i64 (-1), .int .i64 0, .int .i64 65535, .int .i64 65536, .int .i64 2147483647, .int .i64 2147483648, .int .i64 9223372036854775807] 3)) := (Upd.refl _ _).alloc _
      generalize wo.alloc (.cells #[.int .i64 (-9223372036854775808), .int .i64 (-1), .int .i64 0, .int .i64 65535, .int .i64 65536, .int .i64 2147483647, .int .i64 2147483648, .int .i64 9223372036854775807] 3) = W at hb u1 ⊢
      generalize wo.heap.size = bq at hb ⊢
      have HB := Lib.hid hb
      have U1 := Lib.hid (U.out.trans u1)
      clear hb u1 U
      go_loopg [3, 14] 8 (fun g v3 v14 wl => ∃ i : Nat, v14 = .int .i64 (i : Int) ∧ i ≤ 8 ∧ g = 8 - i ∧ Hid (Upd [] W wl))
      case atStart => exact ⟨0, rfl, by omega, rfl, Lib.hid (Upd.refl _ _)⟩
      case round =>
        obtain ⟨i, rfl, hi, hgi, V⟩ := hrel
        rcases Nat.lt_or_ge i 8 with hin | hin
        · have di : decide ((i : Int) < 8) = true := decide_eq_true (by omega)
          obtain ⟨d, hd, hdr⟩ : ∃ d : Int, wr.cell? ⟨bq, i, none⟩ = some (.int .i64 d) ∧ (-9223372036854775808 ≤ d ∧ d ≤ 9223372036854775807) := by
            rw [cells_of (V.out.keep HB.out (by simp))]
            rcases (by omega : i = 0 ∨ i = 1 ∨ i = 2 ∨ i = 3 ∨ i = 4 ∨ i = 5 ∨ i = 6 ∨ i = 7) with rfl | rfl | rfl | rfl | rfl | rfl | rfl | rfl
            all_goals exact ⟨_, rfl, by decide⟩
          have DR := Lib.hid hdr
          clear hdr
          go_wp2_with (first
            | go_skip
            | ((with_reducible refine at_op 34 ?_); refine stop_here ?_)
            | fail)
          intro _
          refine L_value (by kernel_rfl) (.slice (some ⟨wr.heap.size, 0, none⟩) 15 15) (w' := wr.alloc (.cells (askVals17 (script17 d)).toArray 30)) (by kernel_rfl) ?_
          have hok := script17_ok d DR.out
          have z1 := Go.heap_alloc_last wr (.cells (askVals17 (script17 d)).toArray 30)
          have V1 := Lib.hid (V.out.alloc (.cells (askVals17 (script17 d)).toArray 30))
          have P := Lib.hid (play17_calls (some ⟨wr.heap.size, 0, none⟩) (script17 d) 15 _ (asksAt_blk17 hok z1) (asksOk17 hok) (by simp [script17]) (TZ.out _ (U1.out.trans V1.out).below))
          have hl15 : (script17 d).length = 15 := rfl
          rw [hl15] at P
          generalize wr.alloc (.cells (askVals17 (script17 d)).toArray 30) = w1 at P V1 ⊢
          clear hok z1 hl15
          go_wp2_with (fail)
          refine P.out.mono ?_
          rintro e w2 ⟨rfl, hb2⟩
          have V2 := Lib.hid (V1.out.trans (Upd.of_below hb2))
          clear hb2 P
          go_wp2_with (fail)
          go_roundg (8 - (i + 1))
          case measure => omega
          case rel => exact ⟨i + 1, by go_num, by omega, rfl, V2⟩
        · obtain rfl : i = 8 := by omega
          go_wp2_with (fail)
          refine (known17_calls wr (TZ.out _ (U1.out.trans V.out).below)).mono ?_
          rintro e w6 ⟨rfl, hb⟩
          go_wp2_with (fail)
          go_ret
          exact ⟨rfl, ((U1.out.trans V.out).trans (Upd.of_below hb)).below⟩
end Go.Proofs.YthoaofbhppdfoaaDoor
