/- A core in memory: what is seen. -/
import Derived.Test.YtmdjhahafjlebaaGreatDoorQD21
import Derived.Test.YtmdjhahafjlebaaGreatDoorQD28
namespace Go.Proofs.YtmdjhahafjlebaaGreatDoor
open Go.RowKit Go.Dio
set_option linter.unusedSimpArgs false
set_option linter.unusedVariables false

theorem getL_nth {l : List Nat} {i : Nat} (j : Nat) (h : j ≠ i) : nth (getL l (i : Int)) j = nth l j := by
  unfold getL
  split
  · rw [Int.toNat_natCast, nth_set_ne (Ne.symm h)]
  · rfl
theorem getF_le (l : List Nat) (i : Int) : getF l i ≤ 1 := by unfold getF; split <;> decide
theorem seenR_len (l : List Nat) (f : Nat) : ∀ i, (seenR l f i).1.length = l.length
  | 0 => rfl
  | i + 1 => by
    have h := seenR_len l f i
    unfold seenR
    split
    · split
      · exact h
      · rw [getL_len]; exact h
    · exact h
theorem seenR_nth (l : List Nat) (f : Nat) : ∀ i j, i ≤ j → nth (seenR l f i).1 j = nth l j
  | 0, j, _ => rfl
  | i + 1, j, hj => by
    have h := seenR_nth l f i j (by omega)
    unfold seenR
    split
    · split
      · exact h
      · rw [getL_nth j (by omega)]; exact h
    · exact h
theorem seenR_f (l : List Nat) (f : Nat) : ∀ i, (seenR l f i).2.1 ≤ f + i
  | 0 => Nat.le_refl _
  | i + 1 => by
    have h := seenR_f l f i
    have h1 := getF_le (seenR l f i).1 (i : Int)
    unfold seenR
    split
    · split
      · show (seenR l f i).2.1 ≤ _; omega
      · show (seenR l f i).2.1 + getF (seenR l f i).1 (i : Int) ≤ _; omega
    · show (seenR l f i).2.1 ≤ _; omega
theorem seenR_bad (l : List Nat) (f i : Nat) (h : (seenR l f i).2.2 = true) (h2 : (dec (nth l i)).2 = 2) : ∀ n, seenR l f (i + 1 + n) = ((seenR l f i).1, (seenR l f i).2.1, false)
  | 0 => by
    show seenR l f (i + 1) = _
    rw [seenR, if_pos h, if_pos (by rw [seenR_nth l f i i (Nat.le_refl _)]; exact h2)]
  | n + 1 => by
    have e := seenR_bad l f i h h2 n
    show seenR l f (i + 1 + n + 1) = _
    rw [seenR, if_neg (by rw [e]; exact Bool.false_ne_true), e]
theorem seenR_go (l : List Nat) (f i : Nat) (h : (seenR l f i).2.2 = true) (h2 : (dec (nth l i)).2 ≠ 2) : seenR l f (i + 1) = (getL (seenR l f i).1 (i : Int), (seenR l f i).2.1 + getF (seenR l f i).1 (i : Int), true) := by
  rw [seenR, if_pos h, if_neg (by rw [seenR_nth l f i i (Nat.le_refl _)]; exact h2)]
theorem info_u6 : (Tryz.prog.info? 85).map (·.size) = some 6 := by kernel_rfl
def zSeen : List Value := [.int .u32 0, .int .u32 0, .int .u32 0, .int .u32 0, .int .u32 0, .int .u32 0, .int .u32 0, .int .u32 0, .int .u32 0]
theorem zSeen_one : (zSeen.toArray.all fun x => x.oneCell') = true := by simp [zSeen, Value.oneCell']
/-- A slice's array, by its place. -/
theorem Q_arr {P : Program} {ops : Array Oper} {rest : List Oper} {o : Oper} {a : Act} {C : World → Prop} {Q : Act → Prop} (ty : TypeId) (x : Operand) (ho : o.op = .sliceToArrayPointer ty x) (hw : Region.wanted o (yielded ops a.tmps) = true)
    (A : Addr) (len cap : Nat) (hx : a.eval x = .slice (some A) len cap) {n e : Nat} (hu : P.underlying ty = some (.array n e)) (hn : n ≤ len)
    (h : wpQuiet P ops C Q rest (a.put o.dst (.pointer (some A)))) : wpQuiet P ops C Q (o :: rest) a :=
  wpQuiet_step fun K hK => by
    rw [if_pos hw]
    refine ⟨.pointer (some A), fun w hCw => ?_, hK _ h⟩
    unfold Oper.quietAt execOp
    simp only [ho, hx, Instr.arrayAt, Sem.run_bind, run_underlying hu, Result.andThen_ok]
    rw [if_neg (by omega)]
    exact ⟨rfl, rfl⟩
/-- What is seen, as a value. -/
def CoS.seenV (s : CoS) : Array Value := if s.seenOk = true then (seenC s.pc 0 0 0 s.csrs).toArray else zSeen.toArray
theorem seen_mids {w : World} {b : Nat} {o : List Nat} {t : TypeId} (h : w.heap[b]? = some (.cells (nums .u32 o) t (0, 0))) (ho : o.length = 6) : w.rangeAt b 1 [.int .u32 ((nth o 1 : Nat) : Int), .int .u32 ((nth o 2 : Nat) : Int), .int .u32 ((nth o 3 : Nat) : Int), .int .u32 ((nth o 4 : Nat) : Int), .int .u32 ((nth o 5 : Nat) : Int)] := fun j v hv => by
  rw [cells_of h]
  have hj : j < 5 := (List.getElem?_eq_some_iff.1 hv).1
  rw [nums_nth .u32 o (1 + j) (by omega)]
  match j, hv with
  | 0, hv => exact hv
  | 1, hv => exact hv
  | 2, hv => exact hv
  | 3, hv => exact hv
  | 4, hv => exact hv
set_option maxRecDepth 20000 in
set_option maxHeartbeats 4000000 in
theorem seen_calls (k : CoB) (s : CoS) (zz : World) (h : CoreAt k s zz) (hf : s.cf < 9223372036854775800) :
    Calls Tryz.prog 70 #[.pointer (some ⟨k.cb, 0, none⟩)] zz fun e z' => e = .returned (.tuple #[.agg s.seenV, .bool s.seenOk]) ∧ CoR k s.seenS zz z' := by
  have H := Lib.hid h
  have ok := Lib.hid h.ok
  have HZ := Lib.hid h.lt
  have HT := Lib.hid h.tz.lt
  have GT := Lib.hid (fun (i : Nat) w (hi : i ≤ 6) (h : RowAt 108 k.rb k.rd (seenR s.cl s.cf i).1 (seenR s.cl s.cf i).2.1 w) => Get_calls _ k.rb k.rd _ _ (i : Int) w h (by have := seenR_f s.cl s.cf i; omega))
  clear h
  obtain ⟨V, hV⟩ : ∃ V, V = s.seenV := ⟨_, rfl⟩
  obtain ⟨B, hB⟩ : ∃ B, B = s.seenOk := ⟨_, rfl⟩
  rw [← hV, ← hB]
  have HV := Lib.hid hV
  have HB := Lib.hid hB
  clear hV hB
  go_enter Tryz.func70, Tryz.ntmps70
  go_upto_region 2 with (fail)
  generalize hW : World.alloc (World.alloc zz _) _ = z0
  have R0 : Hid (z0.heap[zz.heap.size]? = some (.cells zSeen.toArray 115 (0, 0))) := Lib.hid (by rw [← hW]; exact heap_old (Go.heap_alloc_last zz _) _)
  have R1 : Hid (z0.heap[zz.heap.size + 1]? = some (.cells (nums .u32 [0, 0, 0, 0, 0, 0]) 85 (0, 0))) := Lib.hid (by rw [← hW]; exact heap2 zz _ _)
  have U0 : Hid (Upd [] zz z0) := Lib.hid (by rw [← hW]; exact ((Upd.refl _ _).alloc _).alloc _)
  clear hW
  have H0 := Lib.hid (H.out.upd0 U0.out)
  have V0 : Hid (Upd k.fp zz z0) := Lib.hid (U0.out.mono (by simp))
  clear U0
  go_wp2_with (fail)
  go_loopw [8] (fun v8 wl => ∃ (i : Nat) (o : List Nat), v8 = .int .i64 (i : Int) ∧ i ≤ 6 ∧ Hid (CoreAt k { s with cl := (seenR s.cl s.cf i).1, cf := (seenR s.cl s.cf i).2.1 } wl ∧ (seenR s.cl s.cf i).2.2 = true) ∧ Hid (wl.heap[zz.heap.size]? = some (.cells zSeen.toArray 115 (0, 0))) ∧ Hid (wl.heap[zz.heap.size + 1]? = some (.cells (nums .u32 o) 85 (0, 0))) ∧ Hid (o.length = 6 ∧ ∀ j, j < i → nth o j = (dec (nth s.cl j)).1) ∧ Hid (Upd k.fp zz wl)) (fun v8 _ => 6 - (intOf v8).toNat)
  case atStart => exact ⟨0, _, rfl, by omega, Lib.hid ⟨H0.out, rfl⟩, R0, R1, Lib.hid ⟨rfl, fun j hj => by omega⟩, V0⟩
  case round =>
    obtain ⟨i, o, rfl, hi, HX, R0', R1', HO, HU⟩ := hrel
    clear H0 R0 R1 V0
    rcases Nat.lt_or_ge i 6 with hlt | hge
    · have dl : decide ((i : Int) < 6) = true := decide_eq_true (by omega)
      have c1 := HX.out.1.c1
      have G := Lib.hid (GT.out i wr (by omega) HX.out.1.row)
      rw [peek_nat (l := (seenR s.cl s.cf i).1) (by rw [seenR_len, ok.out.cl]; exact hlt), seenR_nth s.cl s.cf i i (Nat.le_refl _)] at G
      have GO := Lib.hid (seenR_go s.cl s.cf i HX.out.2)
      have BA := Lib.hid (seenR_bad s.cl s.cf i HX.out.2)
      obtain ⟨y, z, hyz⟩ : ∃ y z, dec (nth s.cl i) = (y, z) := ⟨_, _, rfl⟩
      rw [hyz] at G GO BA
      have HY := Lib.hid hyz
      clear hyz
      go_wp2_with (fail)
      refine G.out.mono ?_
      rintro e w1 ⟨rfl, r, u⟩
      have B0 := Lib.hid (u.keep R0'.out (fun hm => by have a1 := HZ.out k.rb (by simp [CoB.fp]); have a2 := HZ.out k.rd (by simp [CoB.fp]); simp at hm; omega))
      have B1 := Lib.hid (u.keep R1'.out (fun hm => by have a1 := HZ.out k.rb (by simp [CoB.fp]); have a2 := HZ.out k.rd (by simp [CoB.fp]); simp at hm; omega))
      have U1 : Hid (Upd k.fp zz w1) := Lib.hid (HU.out.trans (u.mono (fun x hx _ => by simp at hx; rcases hx with h | h <;> simp [CoB.fp, h])))
      have C1 := Lib.hid (HX.out.1.mkRow r u (by simp) (by rw [getL_len, seenR_len]; exact ok.out.cl))
      clear R0' R1' HU r c1 G
      by_cases hz : z = 2
      · subst hz
        have e6 := BA.out rfl (5 - i)
        rw [show i + 1 + (5 - i) = 6 by omega] at e6
        have E6 := Lib.hid e6
        have GL : getL (seenR s.cl s.cf i).1 (i : Int) = (seenR s.cl s.cf i).1 ∧ getF (seenR s.cl s.cf i).1 (i : Int) = 0 := getL_other (by
          rw [peek_nat (l := (seenR s.cl s.cf i).1) (by rw [seenR_len, ok.out.cl]; exact hlt), seenR_nth s.cl s.cf i i (Nat.le_refl _), HY.out]; exact (show (2 : Nat) ≠ 1 by decide))
        have C2 : Hid (CoreAt k s.seenS w1) := Lib.hid (by
          have hc := C1.out
          rw [GL.1, GL.2] at hc
          unfold CoS.seenS
          rw [E6.out]
          exact hc)
        have hb : B = false := by rw [HB.out]; unfold CoS.seenOk; rw [E6.out]
        subst hb
        have hv : V = zSeen.toArray := by rw [HV.out]; unfold CoS.seenV; rw [← HB.out]; rfl
        subst hv
        clear e6 GL C1 GO BA E6
        go_wp2_with (first
          | go_skip
          | ((with_reducible refine at_st 2 ?_); refine L_store_row 115 (.tmp 2) (.tmp 22) rfl (by kernel_rfl) zz.heap.size 0 rfl zSeen 115 B0.out zSeen.toArray rfl 9 info_seen rfl (by decide) zSeen_one ?_))
        intro wA bA uA zA
        rw [spl_all (by rfl)] at bA
        go_wp2_with (fail)
        refine bodyPost_ret (results_row_tmp rfl _ _ zz.heap.size 115 zSeen.toArray _ _ _ rfl rfl bA Tryz.underlying115 rfl info_seen) rfl ⟨rfl, ?_⟩
        exact ⟨C2.out.upd uA (fun x hx hm => by have := HZ.out x hx; simp at hm; omega) (fun hm => by have := HT.out; simp at hm; omega), U1.out.then uA (fun x hx hlt => by simp at hx; omega)⟩
      · have dz : ((z : Int) == 2) = false := by rw [beq_eq_false_iff_ne]; omega
        have cc : w1.cell? ⟨zz.heap.size + 1, i, none⟩ = some (.int .u32 ((nth o i : Nat) : Int)) := by rw [cells_of B1.out]; exact nums_nth .u32 o i (by rw [HO.out.1]; omega)
        have ff : w1.frozen? ⟨zz.heap.size + 1, i, none⟩ = false := free_of B1.out _
        have C2 := C1.out
        have E2 := GO.out hz
        have UX : Upd [zz.heap.size + 1] w1 (w1.setCell ⟨zz.heap.size + 1, i, none⟩ (.int .u32 (y : Int))) := (Upd.refl [zz.heap.size + 1] w1).setCell (p := ⟨zz.heap.size + 1, i, none⟩) (by simp) _
        have Q1 : Hid (CoreAt k { s with cl := (seenR s.cl s.cf (i + 1)).1, cf := (seenR s.cl s.cf (i + 1)).2.1 } (w1.setCell ⟨zz.heap.size + 1, i, none⟩ (.int .u32 (y : Int))) ∧ (seenR s.cl s.cf (i + 1)).2.2 = true) := Lib.hid (by
          rw [E2]
          exact ⟨C2.upd UX (fun x hx hm => by have := HZ.out x hx; simp at hm; omega) (fun hm => by have := HT.out; simp at hm), rfl⟩)
        have Q2 : Hid ((w1.setCell ⟨zz.heap.size + 1, i, none⟩ (.int .u32 (y : Int))).heap[zz.heap.size]? = some (.cells zSeen.toArray 115 (0, 0))) := Lib.hid (UX.keep B0.out (by simp))
        have Q3 : Hid ((w1.setCell ⟨zz.heap.size + 1, i, none⟩ (.int .u32 (y : Int))).heap[zz.heap.size + 1]? = some (.cells (nums .u32 (o.set i y)) 85 (0, 0))) := Lib.hid (by rw [heap_setCell_eq B1.out, nums_set])
        have Q4 : Hid ((o.set i y).length = 6 ∧ ∀ j, j < i + 1 → nth (o.set i y) j = (dec (nth s.cl j)).1) := Lib.hid ⟨by simpa using HO.out.1, fun j hj => by
          by_cases e : i = j
          · subst e; rw [nth_set_eq (by rw [HO.out.1]; omega), HY.out]
          · rw [nth_set_ne e]; exact HO.out.2 j (by omega)⟩
        have Q5 : Hid (Upd k.fp zz (w1.setCell ⟨zz.heap.size + 1, i, none⟩ (.int .u32 (y : Int)))) := Lib.hid (U1.out.then UX (fun x hx hlt => by simp at hx; omega))
        clear C2 E2 UX GO BA C1 HX
        go_wp2_with (fail)
        go_roundw
        case measure => simp [intOf]; omega
        case rel => exact ⟨i + 1, o.set i y, by go_num, by omega, Q1, Q2, Q3, Q4, Q5⟩
    · obtain rfl : i = 6 := by omega
      have hb : B = true := by rw [HB.out]; exact HX.out.2
      subst hb
      have HVE : Hid (V = #[.int .u32 ((nth o 0 : Nat) : Int), .int .u32 0, .int .u32 0, .int .u32 0, .int .u32 ((nth o 1 : Nat) : Int), .int .u32 ((nth o 2 : Nat) : Int), .int .u32 ((nth o 3 : Nat) : Int), .int .u32 ((nth o 4 : Nat) : Int), .int .u32 ((nth o 5 : Nat) : Int)]) := Lib.hid (by
        rw [HV.out]; unfold CoS.seenV; rw [if_pos HB.out.symm]
        have h := HO.out.2
        rw [h 0 (by decide), h 1 (by decide), h 2 (by decide), h 3 (by decide), h 4 (by decide), h 5 (by decide)]
        rfl)
      have c0 : ∀ x : Near [] wr, x.1.cell? ⟨zz.heap.size + 1, 0, none⟩ = some (.int .u32 ((nth o 0 : Nat) : Int)) := fun x => by rw [cells_of (x.2.keep R1'.out (by simp))]; exact nums_nth .u32 o 0 (by rw [HO.out.1]; omega)
      have RG := Lib.hid (fun x : Near [] wr => seen_mids (x.2.keep R1'.out (by simp)) HO.out.1)
      generalize nth o 0 = o0 at *
      generalize nth o 1 = o1 at *
      generalize nth o 2 = o2 at *
      generalize nth o 3 = o3 at *
      generalize nth o 4 = o4 at *
      generalize nth o 5 = o5 at *
      go_upto_region 10 with (fail)
      refine wp_region_segs [([], [0, 1, 2, 3, 4, 5]), ([([], 6)], [7])] (by kernel_rfl) (by kernel_rfl) (by kernel_rfl) (by kernel_rfl) (fun _ d _ _ _ h => by cases d <;> exact h) ?_
      refine segs_part (fun z => ∃ x : Near [] wr, z = x.1) ⟨⟨_, (Upd.refl _ _).drew⟩, rfl⟩ ?_
      refine part_last ?_
      simp only [opsAt, List.map_cons, List.map_nil, List.getElem?_toArray, List.getElem?_cons_zero, List.getElem?_cons_succ, Option.getD_some]
      repeat (first
        | go_big_quiet_step (fail)
        | (refine Q_load 42 (.tmp 30) rfl (by kernel_rfl) _ _ rfl #[.int .u32 (o1 : Int), .int .u32 (o2 : Int), .int .u32 (o3 : Int), .int .u32 (o4 : Int), .int .u32 (o5 : Int)] (by rintro _ ⟨y, rfl⟩; exact RG.out y) Tryz.underlying42 rfl 5 info_rc5 rfl ?_; go_simp))
      refine Q_arr 42 (.tmp 29) rfl (by kernel_rfl) ⟨zz.heap.size + 1, 1, none⟩ 5 5 rfl Tryz.underlying42 (by decide) ?_
      repeat (first
        | go_big_quiet_step (fail)
        | (refine Q_load 42 (.tmp 30) rfl (by kernel_rfl) _ _ rfl #[.int .u32 (o1 : Int), .int .u32 (o2 : Int), .int .u32 (o3 : Int), .int .u32 (o4 : Int), .int .u32 (o5 : Int)] (by rintro _ ⟨y, rfl⟩; exact RG.out y) Tryz.underlying42 rfl 5 info_rc5 rfl ?_; go_simp))
      refine wpQuiet_nil ?_
      unfold partEnd
      clear c0
      refine segs_part (fun z => ∃ x : Near [zz.heap.size] wr, z = x.1) ⟨⟨_, (Upd.refl _ _).drew⟩, rfl⟩ ?_
      refine part_next ?_
      simp only [opsAt, List.map_cons, List.map_nil, List.getElem?_toArray, List.getElem?_cons_zero, List.getElem?_cons_succ, Option.getD_some]
      repeat (go_big_quiet_step (fail))
      refine wpQuiet_nil ?_
      refine part_one rfl ?_
      refine L_store_row 115 (.tmp 2) (.tmp 32) rfl (by kernel_rfl) zz.heap.size 0 rfl zSeen 115 (show wr.drew.heap[zz.heap.size]? = _ from R0'.out) #[.int .u32 (o0 : Int), .int .u32 0, .int .u32 0, .int .u32 0, .int .u32 (o1 : Int), .int .u32 (o2 : Int), .int .u32 (o3 : Int), .int .u32 (o4 : Int), .int .u32 (o5 : Int)] rfl 9 info_seen rfl (by decide) (by simp [Value.oneCell']) ?_
      intro wA bA uA zA
      rw [spl_all (by rfl)] at bA
      go_wp2_with fail
      refine part_same ⟨⟨_, ((((Upd.refl [zz.heap.size] wr).drew).trans uA))⟩, rfl⟩ ?_
      refine part_last ?_
      simp only [opsAt, List.map_cons, List.map_nil, List.getElem?_toArray, List.getElem?_cons_zero, List.getElem?_cons_succ, Option.getD_some]
      repeat (go_big_quiet_step (fail))
      refine wpQuiet_nil ?_
      unfold partEnd
      refine segs_end ?_
      go_wp2_with (fail)
      refine bodyPost_ret (results_row_tmp rfl _ _ zz.heap.size 115 #[.int .u32 (o0 : Int), .int .u32 0, .int .u32 0, .int .u32 0, .int .u32 (o1 : Int), .int .u32 (o2 : Int), .int .u32 (o3 : Int), .int .u32 (o4 : Int), .int .u32 (o5 : Int)] _ _ _ rfl rfl bA Tryz.underlying115 rfl info_seen) rfl ⟨by rw [HVE.out]; rfl, ?_⟩
      have UF := ((Upd.refl [zz.heap.size] wr).drew).trans uA
      exact ⟨HX.out.1.upd UF (fun x hx hm => by have := HZ.out x hx; simp at hm; omega) (fun hm => by have := HT.out; simp at hm; omega), HU.out.then UF (fun x hx hlt => by simp at hx; omega)⟩
end Go.Proofs.YtmdjhahafjlebaaGreatDoor

namespace Go.Proofs.YtmdjhahafjlebaaGreatDoor
open Go.RowKit Go.Dio
set_option linter.unusedSimpArgs false
set_option linter.unusedVariables false

theorem results_state {P : Program} {fn : Func} {p0 p1 p2 p3 : Tmp} {t1 t2 : TypeId} (h : fn.results = #[.tmp p0, .cell p1 t1, .cell p2 t2, .tmp p3]) (tmps : Array Value) (w : World) (g1 g2 : Nat) (ty1 ty2 : TypeId) (c1 c2 : Array Value) (f1 f2 : Nat × Nat) (d1 d2 : TypeDesc) (v0 v3 : Value)
    (h0 : tmps.getD p0 undef = v0) (h1 : tmps.getD p1 undef = .pointer (some ⟨g1, 0, none⟩)) (h2 : tmps.getD p2 undef = .pointer (some ⟨g2, 0, none⟩)) (h3 : tmps.getD p3 undef = v3)
    (hg1 : w.heap[g1]? = some (.cells c1 ty1 f1)) (hg2 : w.heap[g2]? = some (.cells c2 ty2 f2))
    (hu1 : P.underlying t1 = some d1) (hd1 : (match d1 with | .struct _ | .array _ _ => true | _ => false) = true) (hi1 : (P.info? t1).map (·.size) = some c1.size)
    (hu2 : P.underlying t2 = some d2) (hd2 : (match d2 with | .struct _ | .array _ _ => true | _ => false) = true) (hi2 : (P.info? t2).map (·.size) = some c2.size) :
    (results fn tmps).run P w = .ok (.tuple #[v0, .agg c1, .agg c2, v3]) w := by
  have a0 : tmps[p0]?.getD undef = v0 := by simpa using h0
  have a1 : tmps[p1]?.getD undef = .pointer (some ⟨g1, 0, none⟩) := by simpa using h1
  have a2 : tmps[p2]?.getD undef = .pointer (some ⟨g2, 0, none⟩) := by simpa using h2
  have a3 : tmps[p3]?.getD undef = v3 := by simpa using h3
  simp [results, h, a0, a1, a2, a3, asAddr, run_loadVar_row w g1 ty1 t1 c1 f1 d1 hg1 hu1 hd1 hi1, run_loadVar_row w g2 ty2 t2 c2 f2 d2 hg2 hu2 hd2 hi2]
/-- What State tells. -/
def CoS.stOk (s : CoS) : Bool := allB s.fl && s.cl.all fun x => decide ((dec x).2 ≠ 2)
def CoS.stP (s : CoS) : Nat := if s.stOk = true then s.pc else 0
def CoS.stR (s : CoS) : List Nat := if s.stOk = true then allV s.fl else zeros 32
def CoS.stC (s : CoS) : List Nat := if s.stOk = true then s.csrs else [0, 0, 0, 0, 0]
set_option maxRecDepth 20000 in
set_option maxHeartbeats 8000000 in
theorem state_c (k : CoB) (s : CoS) (zz : World) (h : CoreAt k s zz) :
    Calls Tryz.prog 16 #[.pointer (some ⟨k.cb, 0, none⟩)] zz fun e z' => e = .returned (.tuple #[.int .u32 (s.stP : Int), .agg (nums .u32 s.stR), .agg (nums .u32 s.stC), .bool s.stOk]) ∧ Upd [] zz z' := by
  have H := Lib.hid h
  have ok := Lib.hid h.ok
  have AL := Lib.hid (fun w (h : CoreAt k s w) => FAll_calls k.fb k.b k.d s.fl s.ff s.fa w h.file h.ok.fl)
  have PK := Lib.hid (fun (i : Nat) w (h : CoreAt k s w) => Peek_calls _ k.rb k.rd s.cl s.cf (i : Int) w h.row)
  have OA := Lib.hid (show s.stOk = (allB s.fl && s.cl.all fun x => decide ((dec x).2 ≠ 2)) from rfl)
  have HAV := Lib.hid (show ∀ b, b = allB s.fl → b = true → (if allB s.fl then allV s.fl else zeros 32) = allV s.fl from fun b hb ht => by rw [← hb, ht]; rfl)
  have LV : Hid ((if allB s.fl then allV s.fl else zeros 32).length = 32) := Lib.hid (by split <;> simp [allV, zeros, h.ok.fl])
  obtain ⟨VV, hVV⟩ : ∃ VV, VV = (if allB s.fl then allV s.fl else zeros 32) := ⟨_, rfl⟩
  obtain ⟨AB, hAB⟩ : ∃ AB, AB = allB s.fl := ⟨_, rfl⟩
  rw [← hVV] at AL HAV LV
  rw [← hAB] at AL OA
  have HAB := Lib.hid hAB
  clear h hVV hAB
  go_enter Tryz.func16, Tryz.ntmps16
  go_wp2_with (fail)
  go_step3
  go_upto_region 2 with (fail)
  generalize hW : World.alloc (World.alloc (World.alloc zz _) _) _ = z0
  have R1 : Hid (z0.heap[zz.heap.size]? = some (.cells (nums .u32 (zeros 32)) 41 (0, 0))) := Lib.hid (by rw [← hW]; exact heap_old (heap_old (Go.heap_alloc_last zz _) _) _)
  have R2 : Hid (z0.heap[zz.heap.size + 1]? = some (.cells (nums .u32 [0, 0, 0, 0, 0]) 42 (0, 0))) := Lib.hid (by rw [← hW]; exact heap_old (heap2 zz _ _) _)
  have R6 : Hid (z0.heap[zz.heap.size + 1 + 1]? = some (.cells (nums .u32 [0, 0, 0, 0, 0, 0]) 85 (0, 0))) := Lib.hid (by rw [← hW]; exact hl3 _ _ _ _)
  have U0 : Hid (Upd [] zz z0) := Lib.hid (by rw [← hW]; exact (((Upd.refl _ _).alloc _).alloc _).alloc _)
  clear hW
  have c0 := (H.out.upd0 U0.out).c0
  go_wp2_with (fail)
  refine (AL.out _ (H.out.upd0 U0.out)).mono ?_
  rintro e w1 ⟨rfl, u⟩
  have U1' := Lib.hid (U0.out.trans (Upd.of_below u))
  have V1' := Lib.hid ((Upd.of_below (S := []) u).alloc (.cells (nums .u32 VV) 41))
  have R7 := Lib.hid (Go.heap_alloc_last w1 (.cells (nums .u32 VV) 41))
  have U1 := Lib.hid (U1'.out.alloc (.cells (nums .u32 VV) 41))
  have Q1 := Lib.hid (V1'.out.keep R1.out (by simp))
  have Q2 := Lib.hid (V1'.out.keep R2.out (by simp))
  have Q6 := Lib.hid (V1'.out.keep R6.out (by simp))
  have hz1 : zz.heap.size + 1 + 1 < w1.heap.size := Nat.lt_of_lt_of_le (lt_of_block R6.out) (Upd.of_below (S := []) u).size
  clear u U1' V1' R1 R2 R6 U0 c0
  generalize hW : w1.alloc (.cells (nums .u32 VV) 41) = W at *
  have HW := Lib.hid hW
  clear hW
  go_wp2_with (first
    | go_skip
    | ((with_reducible refine at_st 7 ?_); refine L_store_new 41 (.tmp 7) (.tmp 18) rfl (by kernel_rfl) _ (nums .u32 VV) rfl rfl 32 info_r32 rfl (by rw [nums_size]; exact LV.out) (nums_one _ _) ?_; rw [HW.out]))
  go_step3
  go_wp2_with (fail)
  have P0 : Hid (Upd [zz.heap.size + 1 + 1] W W) := Lib.hid (Upd.refl _ _)
  have HW1 := Lib.hid (show zz.heap.size + 1 + 1 < w1.heap.size from hz1)
  go_loopw [8, 20] (fun v8 v20 wl => ∃ (i : Nat) (o : List Nat), v8 = .bool AB ∧ v20 = .int .i64 (i : Int) ∧ i ≤ 6 ∧ Hid (Upd [zz.heap.size + 1 + 1] W wl) ∧ Hid (wl.heap[zz.heap.size + 1 + 1]? = some (.cells (nums .u32 o) 85 (0, 0))) ∧ Hid (o.length = 6 ∧ ∀ j, j < i → nth o j = (dec (nth s.cl j)).1 ∧ (dec (nth s.cl j)).2 ≠ 2)) (fun _ v20 _ => 6 - (intOf v20).toNat)
  case atStart => exact ⟨0, _, rfl, rfl, by omega, P0, Q6, Lib.hid ⟨rfl, fun j hj => by omega⟩⟩
  case round =>
    obtain ⟨i, o, rfl, rfl, hi, HU, HB6, HO⟩ := hrel
    have UU := Lib.hid (U1.out.then HU.out (fun x hx hlt => by simp at hx; omega))
    have S1 := Lib.hid (HU.out.keep Q1.out (by simp; omega))
    have S2 := Lib.hid (HU.out.keep Q2.out (by simp))
    have S7 := Lib.hid (HU.out.keep R7.out (by simp; omega))
    clear P0 Q1 Q2 Q6 R7 HW
    rcases Nat.lt_or_ge i 6 with hlt | hge
    · have dl : decide ((i : Int) < 6) = true := decide_eq_true (by omega)
      have c1 := (H.out.upd0 UU.out).c1
      have G := Lib.hid (PK.out i wr (H.out.upd0 UU.out))
      rw [peek_nat (l := s.cl) (by rw [ok.out.cl]; exact hlt)] at G
      obtain ⟨y, z, hyz⟩ : ∃ y z, dec (nth s.cl i) = (y, z) := ⟨_, _, rfl⟩
      rw [hyz] at G
      have HY := Lib.hid hyz
      clear hyz
      go_wp2_with (fail)
      refine G.out.mono ?_
      rintro e w2 ⟨rfl, hb⟩
      have u := Upd.of_below (S := []) hb
      by_cases hz : z = 2
      · subst hz
        have SO : Hid (s.stOk = false) := Lib.hid (by
          rw [OA.out]
          have : (s.cl.all fun x => decide ((dec x).2 ≠ 2)) = false := by
            rw [List.all_eq_false]
            refine ⟨nth s.cl i, by rw [nth_eq s.cl i (by rw [ok.out.cl]; exact hlt)]; exact List.getElem_mem _, ?_⟩
            rw [HY.out]; simp
          rw [this, Bool.and_false])
        replace UU := Lib.hid (UU.out.trans u)
        replace S1 := Lib.hid (u.keep S1.out (by simp))
        replace S2 := Lib.hid (u.keep S2.out (by simp))
        clear hb u G c1 HO HB6 HU S7
        go_wp2_with (first
          | go_skip
          | ((with_reducible refine at_st 3 ?_); refine L_store_row 41 (.tmp 3) (.tmp 40) rfl (by kernel_rfl) zz.heap.size 0 rfl (nums .u32 (zeros 32)).toList 41 S1.out (nums .u32 (zeros 32)) rfl 32 info_r32 rfl (Nat.le_refl _) (nums_one _ _) ?_))
        intro wA bA uA zA
        rw [spl_all (by rfl)] at bA
        have S2A := Lib.hid (uA.keep S2.out (by simp))
        have BA := Lib.hid bA
        clear bA
        go_wp2_with (first
          | go_skip
          | ((with_reducible refine at_st 4 ?_); refine L_store_row 42 (.tmp 4) (.tmp 41) rfl (by kernel_rfl) (zz.heap.size + 1) 0 rfl (nums .u32 [0, 0, 0, 0, 0]).toList 42 S2A.out (nums .u32 [0, 0, 0, 0, 0]) rfl 5 info_rc5 rfl (Nat.le_refl _) (nums_one _ _) ?_))
        intro wB bB uB zB
        rw [spl_all (by rfl)] at bB
        have BA2 := uB.keep BA.out (by simp)
        go_wp2_with (fail)
        try rw [Exit.noGoto_ret]
        refine bodyPost_ret (results_state rfl _ _ zz.heap.size (zz.heap.size + 1) 41 42 (nums .u32 (zeros 32)) (nums .u32 [0, 0, 0, 0, 0]) _ _ _ _ _ _ rfl rfl rfl rfl BA2 bB Tryz.underlying41 rfl info_r32 Tryz.underlying42 rfl info_rc5) rfl ⟨by unfold CoS.stP CoS.stR CoS.stC; rw [SO.out]; rfl, ?_⟩
        exact (UU.out.then uA (fun x hx hlt => by simp at hx; omega)).then uB (fun x hx hlt => by simp at hx; omega)
      · have dz : ((z : Int) == 2) = false := by rw [beq_eq_false_iff_ne]; omega
        have B6 := Lib.hid (u.keep HB6.out (by simp))
        have cc : w2.cell? ⟨zz.heap.size + 1 + 1, i, none⟩ = some (.int .u32 ((nth o i : Nat) : Int)) := by rw [cells_of B6.out]; exact nums_nth .u32 o i (by rw [HO.out.1]; omega)
        have ff : w2.frozen? ⟨zz.heap.size + 1 + 1, i, none⟩ = false := free_of B6.out _
        have K1 := Lib.hid ((HU.out.trans (u.mono (by simp))).setCell (p := ⟨zz.heap.size + 1 + 1, i, none⟩) (by simp) (.int .u32 (y : Int)))
        have K2 : Hid ((w2.setCell ⟨zz.heap.size + 1 + 1, i, none⟩ (.int .u32 (y : Int))).heap[zz.heap.size + 1 + 1]? = some (.cells (nums .u32 (o.set i y)) 85 (0, 0))) := Lib.hid (by rw [heap_setCell_eq B6.out, nums_set])
        have K3 : Hid ((o.set i y).length = 6 ∧ ∀ j, j < i + 1 → nth (o.set i y) j = (dec (nth s.cl j)).1 ∧ (dec (nth s.cl j)).2 ≠ 2) := Lib.hid ⟨by simpa using HO.out.1, fun j hj => by
          by_cases e : i = j
          · subst e; rw [nth_set_eq (by rw [HO.out.1]; omega), HY.out]; exact ⟨rfl, hz⟩
          · rw [nth_set_ne e]; exact HO.out.2 j (by omega)⟩
        clear hb u G c1 HO HB6 HU S7 S1 S2 UU
        go_wp2_with (fail)
        go_roundw
        case measure => simp [intOf]; omega
        case rel => exact ⟨i + 1, o.set i y, rfl, by go_num, by omega, K1, K2, K3⟩
    · obtain rfl : i = 6 := by omega
      have CA : Hid ((s.cl.all fun x => decide ((dec x).2 ≠ 2)) = true) := Lib.hid (by
        rw [List.all_eq_true]
        intro x hx
        obtain ⟨j, hj, rfl⟩ := List.mem_iff_getElem.1 hx
        have := (HO.out.2 j (by have := ok.out.cl; omega)).2
        rw [nth_eq s.cl j hj] at this
        exact decide_eq_true this)
      cases hAB : AB
      · have SO : Hid (s.stOk = false) := Lib.hid (by rw [OA.out, hAB]; rfl)
        subst hAB
        go_wp2_with (first
          | go_skip
          | ((with_reducible refine at_st 3 ?_); refine L_store_row 41 (.tmp 3) (.tmp 40) rfl (by kernel_rfl) zz.heap.size 0 rfl (nums .u32 (zeros 32)).toList 41 S1.out (nums .u32 (zeros 32)) rfl 32 info_r32 rfl (Nat.le_refl _) (nums_one _ _) ?_))
        intro wA bA uA zA
        rw [spl_all (by rfl)] at bA
        have S2A := Lib.hid (uA.keep S2.out (by simp))
        have BA := Lib.hid bA
        clear bA
        go_wp2_with (first
          | go_skip
          | ((with_reducible refine at_st 4 ?_); refine L_store_row 42 (.tmp 4) (.tmp 41) rfl (by kernel_rfl) (zz.heap.size + 1) 0 rfl (nums .u32 [0, 0, 0, 0, 0]).toList 42 S2A.out (nums .u32 [0, 0, 0, 0, 0]) rfl 5 info_rc5 rfl (Nat.le_refl _) (nums_one _ _) ?_))
        intro wB bB uB zB
        rw [spl_all (by rfl)] at bB
        have BA2 := uB.keep BA.out (by simp)
        go_wp2_with (fail)
        try rw [Exit.noGoto_ret]
        refine bodyPost_ret (results_state rfl _ _ zz.heap.size (zz.heap.size + 1) 41 42 (nums .u32 (zeros 32)) (nums .u32 [0, 0, 0, 0, 0]) _ _ _ _ _ _ rfl rfl rfl rfl BA2 bB Tryz.underlying41 rfl info_r32 Tryz.underlying42 rfl info_rc5) rfl ⟨by unfold CoS.stP CoS.stR CoS.stC; rw [SO.out]; rfl, ?_⟩
        exact (UU.out.then uA (fun x hx hlt => by simp at hx; omega)).then uB (fun x hx hlt => by simp at hx; omega)
      · have SO : Hid (s.stOk = true) := Lib.hid (by rw [OA.out, hAB, CA.out]; rfl)
        have EV : Hid (VV = allV s.fl) := Lib.hid (HAV.out _ HAB.out hAB)
        subst hAB
        have HVE : Hid (s.csrs = [nth o 1, nth o 2, nth o 3, nth o 4, nth o 5]) := Lib.hid (by
          have h := HO.out.2
          rw [(h 1 (by decide)).1, (h 2 (by decide)).1, (h 3 (by decide)).1, (h 4 (by decide)).1, (h 5 (by decide)).1]
          rfl)
        have HP : Hid (s.pc = nth o 0) := Lib.hid (HO.out.2 0 (by decide)).1.symm
        have c0 : ∀ x : Near [zz.heap.size] wr, x.1.cell? ⟨zz.heap.size + 1 + 1, 0, none⟩ = some (.int .u32 ((nth o 0 : Nat) : Int)) := fun x => by rw [cells_of (x.2.keep HB6.out (by simp; omega))]; exact nums_nth .u32 o 0 (by rw [HO.out.1]; omega)
        have RG := Lib.hid (fun x : Near [zz.heap.size] wr => seen_mids (x.2.keep HB6.out (by simp; omega)) HO.out.1)
        have RV := Lib.hid (fun x : Near [zz.heap.size] wr => row_arr (x.2.keep S7.out (by simp; omega)))
        generalize nth o 0 = o0 at *
        generalize nth o 1 = o1 at *
        generalize nth o 2 = o2 at *
        generalize nth o 3 = o3 at *
        generalize nth o 4 = o4 at *
        generalize nth o 5 = o5 at *
        go_wp2_with (fail)
        refine wp_region_segs [([([0, 1, 2, 3, 4, 5, 6], 7)], []), ([([], 8)], [9])] (by kernel_rfl) (by kernel_rfl) (by kernel_rfl) (by kernel_rfl) (fun _ d _ _ _ h => by cases d <;> exact h) ?_
        refine segs_part (fun z => ∃ x : Near [zz.heap.size] wr, z = x.1) ⟨⟨_, (Upd.refl _ _).drew⟩, rfl⟩ ?_
        refine part_next ?_
        simp only [opsAt, List.map_cons, List.map_nil, List.getElem?_toArray, List.getElem?_cons_zero, List.getElem?_cons_succ, Option.getD_some]
        repeat (first
          | go_big_quiet_step (fail)
          | (refine Q_load 41 (.tmp 7) rfl (by kernel_rfl) _ _ rfl (nums .u32 VV) (by rintro _ ⟨y, rfl⟩; exact RV.out y) Tryz.underlying41 rfl 32 info_r32 (by rw [nums_size]; exact LV.out) ?_; go_simp)
          | (refine Q_arr 42 (.tmp 45) rfl (by kernel_rfl) ⟨zz.heap.size + 1 + 1, 1, none⟩ 5 5 rfl Tryz.underlying42 (by decide) ?_; go_simp)
          | (refine Q_load 42 (.tmp 46) rfl (by kernel_rfl) _ _ rfl #[.int .u32 (o1 : Int), .int .u32 (o2 : Int), .int .u32 (o3 : Int), .int .u32 (o4 : Int), .int .u32 (o5 : Int)] (by rintro _ ⟨y, rfl⟩; exact RG.out y) Tryz.underlying42 rfl 5 info_rc5 rfl ?_; go_simp))
        refine wpQuiet_nil ?_
        refine part_one rfl ?_
        refine L_store_row 41 (.tmp 3) (.tmp 44) rfl (by kernel_rfl) zz.heap.size 0 rfl (nums .u32 (zeros 32)).toList 41 (show wr.drew.heap[zz.heap.size]? = _ from S1.out) (nums .u32 VV) rfl 32 info_r32 (by rw [nums_size]; exact LV.out) (Nat.le_refl _) (nums_one _ _) ?_
        intro wA bA uA zA
        rw [spl_all (by simp only [Array.length_toList, nums_size, LV.out]; rfl)] at bA
        have UA := ((Upd.refl [zz.heap.size] wr).drew).trans uA
        have BA := Lib.hid bA
        have S2A := Lib.hid (UA.keep S2.out (by simp))
        go_wp2_with fail
        refine part_same ⟨⟨_, UA⟩, rfl⟩ ?_
        refine part_last ?_
        simp only [opsAt, List.map_cons, List.map_nil, List.getElem?_toArray, List.getElem?_cons_zero, List.getElem?_cons_succ, Option.getD_some]
        repeat (go_big_quiet_step (fail))
        refine wpQuiet_nil ?_
        unfold partEnd
        clear c0
        refine segs_part (fun z => ∃ x : Near [zz.heap.size + 1] wA, z = x.1) ⟨⟨_, (Upd.refl _ _)⟩, rfl⟩ ?_
        refine part_next ?_
        simp only [opsAt, List.map_cons, List.map_nil, List.getElem?_toArray, List.getElem?_cons_zero, List.getElem?_cons_succ, Option.getD_some]
        go_simp
        repeat (go_big_quiet_step (fail))
        refine wpQuiet_nil ?_
        refine part_one rfl ?_
        refine L_store_row 42 (.tmp 4) (.tmp 47) rfl (by kernel_rfl) (zz.heap.size + 1) 0 rfl (nums .u32 [0, 0, 0, 0, 0]).toList 42 S2A.out #[.int .u32 (o1 : Int), .int .u32 (o2 : Int), .int .u32 (o3 : Int), .int .u32 (o4 : Int), .int .u32 (o5 : Int)] rfl 5 info_rc5 rfl (Nat.le_refl _) (by simp [Value.oneCell']) ?_
        intro wB bB uB zB
        rw [spl_all (by rfl)] at bB
        have BA2 := uB.keep BA.out (by simp)
        go_wp2_with fail
        refine part_same ⟨⟨_, uB⟩, rfl⟩ ?_
        refine part_last ?_
        simp only [opsAt, List.map_cons, List.map_nil, List.getElem?_toArray, List.getElem?_cons_zero, List.getElem?_cons_succ, Option.getD_some]
        go_simp
        repeat (go_big_quiet_step (fail))
        refine wpQuiet_nil ?_
        unfold partEnd
        refine segs_end ?_
        go_wp2_with (fail)
        try rw [Exit.noGoto_ret]
        refine bodyPost_ret (results_state rfl _ _ zz.heap.size (zz.heap.size + 1) 41 42 (nums .u32 VV) #[.int .u32 (o1 : Int), .int .u32 (o2 : Int), .int .u32 (o3 : Int), .int .u32 (o4 : Int), .int .u32 (o5 : Int)] _ _ _ _ _ _ rfl rfl rfl rfl (by simpa using BA2) bB Tryz.underlying41 rfl (by rw [nums_size, LV.out]; exact info_r32) Tryz.underlying42 rfl info_rc5) rfl ⟨?_, ?_⟩
        · unfold CoS.stP CoS.stR CoS.stC; rw [SO.out, if_pos rfl, if_pos rfl, if_pos rfl, ← EV.out, HP.out, HVE.out]; rfl
        · exact (UU.out.then UA (fun x hx hlt => by simp at hx; omega)).then uB (fun x hx hlt => by simp at hx; omega)
end Go.Proofs.YtmdjhahafjlebaaGreatDoor
