/- A core in memory: do. -/
import Derived.Test.YtmdjhahafjlebaaGreatDoorQD34
namespace Go.Proofs.YtmdjhahafjlebaaGreatDoor
open Go.RowKit Go.Dio
set_option linter.unusedSimpArgs false
set_option linter.unusedVariables false

theorem At3.fr {σ : Type} {rv : Value} {k : CoB} {base : Nat} {B : Bus σ rv k base} {s : CoS} {m : σ} {zz w w' : World} {x : Nat} (h : At3 B s m zz w) (u : Upd [x] w w') (hx : zz.heap.size < x) : At3 B s m zz w' :=
  ⟨h.core.upd u (fun y hy hm => by have := h.lt y hy; simp at hm; omega) (fun hm => by have := h.tab; simp at hm; omega), B.st m _ w w' h.bus u (fun y hy => .inr (by have := h.base; simp at hy; omega)), u.keep h.ret (by simp; omega), h.upd.then u (fun y hy hlt => by simp at hy; omega), h.lt, h.tab, h.base⟩
theorem At3.file {σ : Type} {rv : Value} {k : CoB} {base : Nat} {B : Bus σ rv k base} {s : CoS} {m : σ} {zz w w' : World} {l : List Nat} {f : Nat} (h : At3 B s m zz w) (r : FileAt k.fb k.b k.d l f s.fa w') (u : Upd [k.b, k.d] w w') (hl : l.length = 31) : At3 B { s with fl := l, ff := f } m zz w' :=
  h.cor ⟨h.core.mkFile r u (by simp) hl h.core.ok.fa, u.mono (fun x hx _ => by simp at hx; rcases hx with h | h <;> simp [CoB.fp, h])⟩
theorem ldI_b {D : InstV} {a x : Nat} {d : Bool} (h : LdI D a x d) : ldB D a = d ∧ (d = true → x = ldA D a) := by
  refine ⟨?_, fun hd => (h.1 hd).1⟩
  unfold ldB
  cases d
  · have := h.2 rfl
    by_cases h1 : 11 ≤ D.op ∧ D.op ≤ 15
    · rw [decide_eq_true h1, Bool.true_and]
      rcases this with h2 | h2 | h2
      · omega
      · omega
      · rw [h2]; rfl
    · rw [decide_eq_false h1, Bool.false_and]
  · obtain ⟨_, h1, h2, h3⟩ := h.1 rfl
    rw [decide_eq_true ⟨h1, h2⟩, h3]; rfl
theorem rdL_len (l : List Nat) (i : Int) : (rdL l i).length = l.length := by unfold rdL; split <;> simp [getL_len]
theorem rdV_lt (l : List Nat) (i : Int) : (rdV l i).1 < 2 ^ 32 := by
  unfold rdV peekL
  split
  · exact (show (0 : Nat) < 2 ^ 32 by decide)
  · split
    · exact dec_lt _
    · exact (show (0 : Nat) < 2 ^ 32 by decide)
theorem rdF_le (l : List Nat) (i : Int) : rdF l i ≤ 1 := by unfold rdF; split <;> (first | omega | exact getF_le _ _)
/-- The core behind the read of a register. -/
def CoS.rr (s : CoS) (r : Nat) : CoS := { s with fl := rdL s.fl (r : Int), ff := s.ff + rdF s.fl (r : Int) }
section
variable {σ : Type} (ld : σ → Nat → (Nat × Bool) × σ)
theorem coArgs_00 (s : CoS) (pc w : Nat) (cs : List Nat) (i : InstV) (m : σ) (h1 : (readsP i).1 = false) (h2 : (readsP i).2 = false) : coArgs ld s pc w cs i m = coGo ld s pc w 0 0 cs m := by
  unfold coArgs CoS.rd CoS.rdN
  rw [h1, h2]
  rfl
theorem coArgs_10 (s : CoS) (pc w : Nat) (cs : List Nat) (i : InstV) (m : σ) (h1 : (readsP i).1 = true) (h2 : (readsP i).2 = false) :
    coArgs ld s pc w cs i m = if (rdV s.fl (i.r1 : Int)).2 = 2 then coSick (s.rr i.r1) m else coGo ld (s.rr i.r1) pc w (rdV s.fl (i.r1 : Int)).1 0 cs m := by
  unfold coArgs CoS.rd CoS.rdN
  rw [h1, h2]
  by_cases h : (rdV s.fl (i.r1 : Int)).2 = 2
  · rw [if_pos h]; exact if_pos (.inl h)
  · rw [if_neg h]; exact if_neg (fun hh => hh.elim h (fun h3 => by simp at h3))
theorem coArgs_11 (s : CoS) (pc w : Nat) (cs : List Nat) (i : InstV) (m : σ) (h1 : (readsP i).1 = true) (h2 : (readsP i).2 = true) :
    coArgs ld s pc w cs i m = if (rdV s.fl (i.r1 : Int)).2 = 2 ∨ (rdV (s.rr i.r1).fl (i.r2 : Int)).2 = 2 then coSick ((s.rr i.r1).rr i.r2) m else coGo ld ((s.rr i.r1).rr i.r2) pc w (rdV s.fl (i.r1 : Int)).1 (rdV (s.rr i.r1).fl (i.r2 : Int)).1 cs m := by
  unfold coArgs CoS.rd CoS.rdN
  rw [h1, h2]
  rfl
end
theorem reads_two {i : InstV} (h : (readsP i).2 = true) : (readsP i).1 = true := by
  unfold readsP at h ⊢
  dsimp only at h ⊢
  rw [h]; rfl
set_option maxRecDepth 20000 in
set_option maxHeartbeats 32000000 in
theorem do_c {σ : Type} {rv : Value} {k : CoB} {base : Nat} (B : Bus σ rv k base) (s : CoS) (m : σ) (zz : World) (h : CoreAt k s zz) (hb : B.ok m zz) (hbase : base ≤ zz.heap.size) (hf : s.cf < 9223372036854775800) (hff : s.ff < 9223372036854775800) :
    Calls Tryz.prog 44 #[.pointer (some ⟨k.cb, 0, none⟩), .iface 33 rv] zz fun e z' => e = .returned (.tuple #[.agg (coDo B.ld s m).1.cells.toArray, .int .i64 ((coDo B.ld s m).2.1 : Int)]) ∧ CoR2 B (coDo B.ld s m).2.2.1 (coDo B.ld s m).2.2.2 zz z' := by
  have H := Lib.hid h
  have HB := Lib.hid hb
  have HBA := Lib.hid hbase
  have HZ := Lib.hid h.lt
  have HT := Lib.hid h.tz.lt
  have ok := Lib.hid h.ok
  have SE := Lib.hid (fun w (h : CoreAt k s w) => seen_calls k s w h hf)
  have SK := Lib.hid (fun s' w (h : CoreAt k s' w) => sick_calls k s' w h)
  have EN := Lib.hid (fun s' x w (h : CoreAt k s' w) (g : WGood x) => end_calls k s' x w h g.r.val g.r.rd g.next g.cs.len g.cs.lt)
  have hV := seenV_sz s
  clear h hb hbase
  go_enter Tryz.func44, Tryz.ntmps44
  go_upto_region 1 with (fail)
  generalize hW : World.alloc zz _ = z0
  have R0 : Hid (z0.heap[zz.heap.size]? = some (.cells zR.cells.toArray 38 (0, 0))) := Lib.hid (by rw [← hW]; exact Go.heap_alloc_last zz _)
  have U0 : Hid (Upd [] zz z0) := Lib.hid (by rw [← hW]; exact (Upd.refl _ _).alloc _)
  clear hW
  have T0 : Hid (At3 B s m zz z0) := Lib.hid ⟨H.out.upd0 U0.out, B.st m [] zz z0 HB.out U0.out (by simp), R0.out, U0.out.mono (by simp), HZ.out, HT.out, HBA.out⟩
  have hz0 : zz.heap.size < z0.heap.size := lt_of_block R0.out
  clear H HB HBA HZ HT U0 R0
  have HS : Hid (s.seenOk = true → s.seenV = (seenC s.pc 0 0 0 s.csrs).toArray) := Lib.hid (fun h => by unfold CoS.seenV; rw [if_pos h])
  generalize s.seenV = V at *
  go_wp2_with (fail)
  refine (SE.out _ T0.out.core).mono ?_
  rintro e w1 ⟨rfl, r⟩
  have hz1 : zz.heap.size < w1.heap.size := Nat.lt_of_lt_of_le hz0 r.upd.size
  have T1 := Lib.hid (T0.out.cor r)
  have T2 := Lib.hid (T1.out.near ((Upd.refl [] w1).alloc (.cells V 115)))
  have SB := Lib.hid (Go.heap_alloc_last w1 (.cells V 115))
  clear r T0 T1 hz0
  cases hk : s.seenOk
  · have HO : Hid (coDo B.ld s m = coSick s.seenS m) := Lib.hid (by unfold coDo; rw [if_pos hk])
    clear hk HS
    go_wp2_with (first
      | go_skip
      | ((with_reducible refine at_st 6 ?_); refine L_store_new 115 (.tmp 6) (.tmp 20) rfl (by kernel_rfl) _ V rfl rfl 9 info_seen rfl hV.1 hV.2 ?_))
    refine (SK.out _ _ T2.out.core).mono ?_
    rintro e w2 ⟨rfl, r⟩
    have T3 := Lib.hid (T2.out.cor r)
    clear r
    go_wp2_with (first
      | go_skip
      | ((with_reducible refine at_st 4 ?_); refine L_store_row 38 (.tmp 4) (.tmp 26) rfl (by kernel_rfl) zz.heap.size 0 rfl zR.cells 38 T3.out.ret (zR.cells.toArray) rfl 7 info_ret rfl (by decide) (RetV.one _) ?_))
    intro wA bA uA zA
    rw [spl_all (by rfl)] at bA
    go_wp2_with (fail)
    refine bodyPost_ret (results_row_tmp rfl _ _ zz.heap.size 38 (zR.cells.toArray) _ _ _ rfl rfl bA Tryz.underlying38 rfl info_ret) rfl ⟨by rw [HO.out]; rfl, ?_⟩
    rw [HO.out]
    exact T3.out.fin uA
  · have hv := HS.out hk
    subst hv
    have HO1 : Hid (coDo B.ld s m = coArgs B.ld s.seenS s.pc (pget (nth s.ll 2)) s.csrs (decodeP (pget (nth s.ll 2))) m) := Lib.hid (by unfold coDo; rw [if_neg (by rw [hk]; decide)])
    clear hk HS
    have hwl := pget_lt (nth s.ll 2)
    have GL := Lib.hid (LGet_calls k.lb k.ld s.ll 2 _ T2.out.core.lat (by rw [ok.out.ll]; decide))
    generalize pget (nth s.ll 2) = wd at *
    have DC := Lib.hid (fun z => decode_calls wd hwl z)
    have RC := Lib.hid (fun z => reads_calls (decodeP wd) z)
    have LD := Lib.hid (fun (a : Nat) (ha : a < 2 ^ 32) z => loads_calls wd a hwl ha z)
    have DO := Lib.hid (fun (a b n : Nat) (ha : a < 2 ^ 32) (hb : b < 2 ^ 32) (hn : n < 2 ^ 32) z => do_calls s.pc wd a b n s.csrs z s.pc_lt hwl ha hb hn s.csrs_w.at s.csrs_w.len)
    have WG := Lib.hid (fun (a b n : Nat) (ha : a < 2 ^ 32) (hb : b < 2 ^ 32) (hn : n < 2 ^ 32) => do_w s.pc wd a b s.csrs n s.csrs_w s.pc_lt hwl ha hb hn)
    have wfi := decodeP_wf wd
    have c3 := T2.out.core.c3
    generalize hWW : w1.alloc (.cells (seenC s.pc 0 0 0 s.csrs).toArray 115) = W at *
    have HWW := Lib.hid hWW
    clear hWW
    go_wp2_with (first
      | go_skip
      | ((with_reducible refine at_st 6 ?_); refine L_store_new 115 (.tmp 6) (.tmp 20) rfl (by kernel_rfl) _ (seenC s.pc 0 0 0 s.csrs).toArray rfl rfl 9 info_seen rfl hV.1 hV.2 ?_; rw [HWW.out]))
    refine GL.out.mono ?_
    rintro e w2 ⟨rfl, rfl⟩
    clear HWW GL c3
    generalize hb6 : w1.heap.size = b6 at *
    go_wp2_with (first
      | go_skip
      | ((with_reducible refine at_st 36 ?_); refine L_store_int 36 (.tmp 36) (.tmp 34) rfl (by kernel_rfl) b6 1 rfl (seenC s.pc 0 0 0 s.csrs) 115 SB.out .u32 (wd : Int) rfl info_u1 (show 1 < 9 by decide) ?_))
    intro w3 bA uA zA
    have SB3 : Hid (w3.heap[b6]? = some (.cells (seenC s.pc wd 0 0 s.csrs).toArray 115 (0, 0))) := Lib.hid bA
    have T3 := Lib.hid (T2.out.fr uA hz1)
    have p1 : w3.cell? ⟨b6, 1, none⟩ = some (.int .u32 (wd : Int)) := by rw [cells_of SB3.out]; rfl
    clear bA uA zA SB T2
    go_wp2_with (fail)
    refine (DC.out _).mono ?_
    rintro e w4 ⟨rfl, u⟩
    have T4 := Lib.hid ((T3.out.near u).near ((Upd.refl [] w4).alloc (.cells (decodeP wd).arr 69)))
    have IB := Lib.hid (Go.heap_alloc_last w4 (.cells (decodeP wd).arr 69))
    have SB4 := Lib.hid (((u.keep SB3.out (by simp)) : w4.heap[b6]? = _))
    have hb64 : b6 < w4.heap.size := lt_of_block SB4.out
    have SB5 := Lib.hid (((Upd.refl [] w4).alloc (.cells (decodeP wd).arr 69)).keep SB4.out (by simp))
    have hk4 : k.b < w4.heap.size ∧ k.d < w4.heap.size := ⟨(T3.out.near u).core.lt k.b (by simp [CoB.fp]), (T3.out.near u).core.lt k.d (by simp [CoB.fp])⟩
    have hkz : k.b < zz.heap.size ∧ k.d < zz.heap.size := ⟨T3.out.lt k.b (by simp [CoB.fp]), T3.out.lt k.d (by simp [CoB.fp])⟩
    clear u T3 p1 SB3 SB4 DC
    generalize hW4 : w4.alloc (.cells (decodeP wd).arr 69) = W4 at *
    have HW4 := Lib.hid hW4
    clear hW4
    go_wp2_with (first
      | go_skip
      | ((with_reducible refine at_st 8 ?_); refine L_store_new 69 (.tmp 8) (.tmp 41) rfl (by kernel_rfl) _ (decodeP wd).arr rfl rfl 5 info_inst rfl rfl (InstV.one _) ?_; rw [HW4.out])
      | ((with_reducible refine at_op 44 ?_); refine L_load 69 (.tmp 8) rfl (by kernel_rfl) _ _ rfl (decodeP wd).arr (row_arr IB.out) Tryz.underlying69 rfl 5 info_inst rfl ?_))
    refine (RC.out _).mono ?_
    rintro e w5 ⟨rfl, u⟩
    have T5 := Lib.hid (T4.out.near u)
    have IB5 := Lib.hid (u.keep IB.out (by simp))
    have SB6 := Lib.hid (u.keep SB5.out (by simp))
    clear u T4 IB SB5 HW4 RC
    generalize hb8 : w4.heap.size = b8 at *
    have hd : (decodeP wd).r1 < 32 ∧ (decodeP wd).r2 < 32 := ⟨wfi.2.2.1, wfi.2.2.2.1⟩
    have nd := Lib.hid T5.out.core.nd
    have cbx : k.cb ∉ [k.b, k.d, b6] := fun hm => by
      simp only [List.mem_cons, List.not_mem_nil, or_false] at hm
      have := T5.out.lt k.cb (by simp [CoB.fp])
      rcases hm with e | e | e
      · exact absurd (nd_inj nd.out (i := 0) (j := 2) (x := k.b) (by rw [← e]; rfl) rfl) (by decide)
      · exact absurd (nd_inj nd.out (i := 0) (j := 3) (x := k.d) (by rw [← e]; rfl) rfl) (by decide)
      · omega
    have ibx : b8 ∉ [k.b, k.d, b6] := fun hm => by
      simp only [List.mem_cons, List.not_mem_nil, or_false] at hm
      omega
    have b6x : b6 ∉ [k.b, k.d] := fun hm => by
      simp only [List.mem_cons, List.not_mem_nil, or_false] at hm
      omega
    have NE := Lib.hid (And.intro cbx (And.intro ibx b6x))
    clear cbx ibx b6x nd wfi
    have ZL : (0 : Nat) < 2 ^ 32 := by decide
    cases h2 : (readsP (decodeP wd)).2
    · cases h1 : (readsP (decodeP wd)).1
      · have HG := Lib.hid (HO1.out.trans (coArgs_00 B.ld s.seenS s.pc wd s.csrs (decodeP wd) m h1 h2))
        clear HO1 h1 h2
        have t1 := (cells_of SB6.out 1)
        have t2 := (cells_of SB6.out 2)
        simp only [seenC, List.getElem?_toArray, List.getElem?_cons_succ, List.getElem?_cons_zero] at t1 t2
        go_wp2_with (fail)
        refine (LD.out 0 ZL _).mono ?_
        rintro e wL ⟨la, d, rfl, hld, u⟩
        have LB := Lib.hid (ldI_b hld)
        have TL := Lib.hid (T5.out.near u)
        have SL := Lib.hid (u.keep SB6.out (by simp))
        clear u hld
        cases d
        · have HO : Hid (coDo B.ld s m = coEnd _ (doP s.pc wd 0 0 s.csrs 0) m) := Lib.hid (by rw [HG.out]; unfold coGo; rw [if_neg (by rw [LB.out.1]; decide)])
          have DD := Lib.hid (DO.out 0 0 0 ZL ZL (by decide))
          have WW := Lib.hid (WG.out 0 0 0 ZL ZL (by decide))
          generalize doP s.pc wd 0 0 s.csrs 0 = X at *
          clear LB HG
          go_wp2_with (first
            | go_skip
            | ((with_reducible refine at_op 104 ?_); refine L_load 115 (.tmp 6) rfl (by kernel_rfl) _ _ rfl (seenC s.pc wd 0 0 s.csrs).toArray (row_arr SL.out) Tryz.underlying115 rfl 9 info_seen rfl ?_))
          refine (DD.out _).mono ?_
          rintro e wD ⟨rfl, u⟩
          have TD := Lib.hid (TL.out.near u)
          clear u
          go_wp2_with (fail)
          refine (EN.out _ X _ TD.out.core WW.out).mono ?_
          rintro e wE ⟨rfl, r⟩
          have TE := Lib.hid (TD.out.cor r)
          clear r
          go_wp2_with (first
            | go_skip
            | ((with_reducible refine at_st 4 ?_); refine L_store_row 38 (.tmp 4) (.tmp 108) rfl (by kernel_rfl) zz.heap.size 0 rfl zR.cells 38 TE.out.ret (X.r.cells.toArray) rfl 7 info_ret rfl (by decide) (RetV.one _) ?_))
          intro wA bA uA zA
          rw [spl_all (by rfl)] at bA
          go_wp2_with (fail)
          refine bodyPost_ret (results_row_tmp rfl _ _ zz.heap.size 38 (X.r.cells.toArray) _ _ _ rfl rfl bA Tryz.underlying38 rfl info_ret) rfl ⟨by rw [HO.out]; rfl, ?_⟩
          rw [HO.out]
          exact TE.out.fin uA
        · have hx := LB.out.2 rfl
          have HG2 : Hid (coDo B.ld s m = if (B.ld m la).1.2 = false then coSick _ (B.ld m la).2 else coEnd _ (doP s.pc wd 0 0 s.csrs (B.ld m la).1.1) (B.ld m la).2) := Lib.hid (by rw [HG.out]; unfold coGo; rw [if_pos LB.out.1, ← hx])
          have hxl : la < 2 ^ 32 := by rw [hx]; unfold ldA low2; have := u32_lt (((0 : Nat) : Int) + (decodeP wd).imm); omega
          have BC := Lib.hid (B.call m la)
          have hnl := B.lt m la _ TL.out.bus
          clear LB hx HG
          generalize B.ld m la = Y at *
          obtain ⟨⟨n, okb⟩, m'⟩ := Y
          dsimp only at BC HG2 hnl
          go_wp2_with (fail)
          rw [B.meth]
          simp only [Result.andThen_ok]
          rw [call_bus]
          cases okb
          · have HO := Lib.hid (HG2.out.trans (if_pos rfl))
            refine Calls.mono (BC.out _ TL.out.bus hxl) ?_
            rintro e wD ⟨rfl, o, u⟩
            have TD := Lib.hid (TL.out.load o u)
            clear o u
            go_wp2_with (fail)
            refine (SK.out _ _ TD.out.core).mono ?_
            rintro e wS ⟨rfl, r⟩
            have TS := Lib.hid (TD.out.cor r)
            clear r
            go_wp2_with (first
              | go_skip
              | ((with_reducible refine at_st 4 ?_); refine L_store_row 38 (.tmp 4) (.tmp 101) rfl (by kernel_rfl) zz.heap.size 0 rfl zR.cells 38 TS.out.ret (zR.cells.toArray) rfl 7 info_ret rfl (by decide) (RetV.one _) ?_))
            intro wA bA uA zA
            rw [spl_all (by rfl)] at bA
            go_wp2_with (fail)
            refine bodyPost_ret (results_row_tmp rfl _ _ zz.heap.size 38 (zR.cells.toArray) _ _ _ rfl rfl bA Tryz.underlying38 rfl info_ret) rfl ⟨by rw [HO.out]; rfl, ?_⟩
            rw [HO.out]
            exact TS.out.fin uA
          · have HO := Lib.hid (HG2.out.trans (if_neg (by decide)))
            have DD := Lib.hid (DO.out 0 0 n ZL ZL hnl)
            have WW := Lib.hid (WG.out 0 0 n ZL ZL hnl)
            generalize doP s.pc wd 0 0 s.csrs n = X at *
            clear HG2
            refine Calls.mono (BC.out _ TL.out.bus hxl) ?_
            rintro e wD ⟨rfl, o, u⟩
            have SD := Lib.hid (u.keep SL.out (fun hm => by have := (B.apart _ hm).2.1; have := TL.out.base; omega))
            have TD := Lib.hid (TL.out.load o u)
            clear o u
            go_wp2_with (first
              | go_skip
              | ((with_reducible refine at_op 104 ?_); refine L_load 115 (.tmp 6) rfl (by kernel_rfl) _ _ rfl (seenC s.pc wd 0 0 s.csrs).toArray (row_arr SD.out) Tryz.underlying115 rfl 9 info_seen rfl ?_))
            refine (DD.out _).mono ?_
            rintro e wF ⟨rfl, u⟩
            have TF := Lib.hid (TD.out.near u)
            clear u
            go_wp2_with (fail)
            refine (EN.out _ X _ TF.out.core WW.out).mono ?_
            rintro e wE ⟨rfl, r⟩
            have TE := Lib.hid (TF.out.cor r)
            clear r
            go_wp2_with (first
              | go_skip
              | ((with_reducible refine at_st 4 ?_); refine L_store_row 38 (.tmp 4) (.tmp 108) rfl (by kernel_rfl) zz.heap.size 0 rfl zR.cells 38 TE.out.ret (X.r.cells.toArray) rfl 7 info_ret rfl (by decide) (RetV.one _) ?_))
            intro wA bA uA zA
            rw [spl_all (by rfl)] at bA
            go_wp2_with (fail)
            refine bodyPost_ret (results_row_tmp rfl _ _ zz.heap.size 38 (X.r.cells.toArray) _ _ _ rfl rfl bA Tryz.underlying38 rfl info_ret) rfl ⟨by rw [HO.out]; rfl, ?_⟩
            rw [HO.out]
            exact TE.out.fin uA
      · have HG := Lib.hid (HO1.out.trans (coArgs_10 B.ld s.seenS s.pc wd s.csrs (decodeP wd) m h1 h2))
        clear HO1 h1 h2
        have hff2 : s.seenS.ff < 9223372036854775806 := by show s.ff < _; omega
        have n0 : ∀ x : Near [k.b, k.d, b6] w5, x.1.cell? ⟨k.cb, 0, none⟩ = some (.pointer (some ⟨k.fb, 0, none⟩)) := fun x => by rw [cells_of (x.2.keep T5.out.core.cell NE.out.1)]; rfl
        have ni : ∀ x : Near [k.b, k.d, b6] w5, x.1.cell? ⟨b8, 2, none⟩ = some (.int .i64 (((decodeP wd).r1 : Nat) : Int)) := fun x => by rw [cells_of (x.2.keep IB5.out NE.out.2.1)]; rfl
        have FR := Lib.hid (FRead_calls k.fb k.b k.d (s.seenS).fl (s.seenS).ff (s.seenS).fa (((decodeP wd).r1 : Nat) : Int) _ (T5.out.near ((Upd.refl [] w5).drew)).core.file (by omega) (by omega) (by first | exact hff2 | exact hff3))
        have hala1 := rdV_lt (s.seenS).fl (((decodeP wd).r1 : Nat) : Int)
        generalize (rdV (s.seenS).fl (((decodeP wd).r1 : Nat) : Int)).1 = a1 at *
        generalize (rdV (s.seenS).fl (((decodeP wd).r1 : Nat) : Int)).2 = q1 at *
        go_wp2_with (fail)
        refine wp_region_plan (fun z => ∃ x : Near [k.b, k.d, b6] w5, z = x.1) [([0, 1, 2, 3, 4, 5], 6), ([7, 8, 9, 10], 11)] [12] (by kernel_rfl) (by kernel_rfl) (by kernel_rfl) (by kernel_rfl) (fun _ d _ _ _ h => by cases d <;> exact h) ⟨⟨(w5).drew, (Upd.refl _ _).drew⟩, rfl⟩ ?_
        refine plan_next ?_
        simp only [opsAt, List.map_cons, List.map_nil, List.getElem?_toArray, List.getElem?_cons_zero, List.getElem?_cons_succ, Option.getD_some]
        repeat (go_big_quiet_step (fail))
        refine wpQuiet_nil ?_
        refine plan_one rfl ?_
        go_wp2_with fail
        refine FR.out.mono ?_
        rintro e w6 ⟨rfl, r, u⟩
        have U6 : Upd [k.b, k.d, b6] w5 w6 := ((Upd.refl _ _).drew).trans (u.mono (fun x hx _ => by simp at hx; rcases hx with h | h <;> simp [h]))
        have T6 := Lib.hid ((T5.out.near (Upd.refl _ _).drew).file r u (by first | (rw [rdL_len]; exact ok.out.fl) | (rw [rdL_len]; exact (rdL_len _ _).trans ok.out.fl)))
        have SBm := Lib.hid (u.keep (show (w5).drew.heap[b6]? = _ from SB6.out) NE.out.2.2)
        have IBm := Lib.hid (u.keep (show (w5).drew.heap[b8]? = _ from IB5.out) (fun hm => NE.out.2.1 (by simp at hm; rcases hm with h | h <;> simp [h])))
        clear r u
        go_wp2_with fail
        refine plan_same ⟨⟨_, U6⟩, rfl⟩ ?_
        refine plan_next ?_
        simp only [opsAt, List.map_cons, List.map_nil, List.getElem?_toArray, List.getElem?_cons_zero, List.getElem?_cons_succ, Option.getD_some]
        repeat (go_big_quiet_step (fail))
        refine wpQuiet_nil ?_
        refine plan_one rfl ?_
        refine L_store_int 36 (.tmp 59) (.tmp 57) rfl (by kernel_rfl) b6 2 rfl (seenC s.pc wd 0 0 s.csrs) 115 SBm.out .u32 (a1 : Int) rfl info_u1 (show 2 < 9 by decide) ?_
        intro w7 bA uA zA
        have SB7 : Hid ((w7).heap[b6]? = some (.cells (seenC s.pc wd a1 0 s.csrs).toArray 115 (0, 0))) := Lib.hid bA
        have T7 := Lib.hid (T6.out.fr uA hz1)
        have IB7 := Lib.hid (uA.keep IBm.out (by simp; omega))
        have U7 : Upd [k.b, k.d, b6] w5 w7 := U6.trans (uA.mono (fun x hx _ => by simp at hx; simp [hx]))
        clear bA uA zA SBm IBm U6 n0 ni FR T6
        go_wp2_with fail
        refine plan_same ⟨⟨_, U7⟩, rfl⟩ ?_
        by_cases hq : q1 = 2
        · subst hq
          have HO := Lib.hid (HG.out.trans (if_pos rfl))
          refine plan_last ?_
          simp only [opsAt, List.map_cons, List.map_nil, List.getElem?_toArray, List.getElem?_cons_zero, List.getElem?_cons_succ, Option.getD_some]
          go_simp
          repeat (go_big_quiet_step (fail))
          refine wpQuiet_nil ?_
          unfold planEnd
          go_wp2_with fail
          refine (SK.out _ _ T7.out.core).mono ?_
          rintro e wS ⟨rfl, r⟩
          have TS := Lib.hid (T7.out.cor r)
          clear r
          go_wp2_with (first
            | go_skip
            | ((with_reducible refine at_st 4 ?_); refine L_store_row 38 (.tmp 4) (.tmp 80) rfl (by kernel_rfl) zz.heap.size 0 rfl zR.cells 38 TS.out.ret (zR.cells.toArray) rfl 7 info_ret rfl (by decide) (RetV.one _) ?_))
          intro wA bA uA zA
          rw [spl_all (by rfl)] at bA
          go_wp2_with (fail)
          refine bodyPost_ret (results_row_tmp rfl _ _ zz.heap.size 38 (zR.cells.toArray) _ _ _ rfl rfl bA Tryz.underlying38 rfl info_ret) rfl ⟨by rw [HO.out]; rfl, ?_⟩
          rw [HO.out]
          exact TS.out.fin uA
        · have dq : ((q1 : Int) == 2) = false := by rw [beq_eq_false_iff_ne]; omega
          have HG1 := Lib.hid (HG.out.trans (if_neg hq))
          have t1 := (cells_of SB7.out 1)
          have t2 := (cells_of SB7.out 2)
          simp only [seenC, List.getElem?_toArray, List.getElem?_cons_succ, List.getElem?_cons_zero] at t1 t2
          refine plan_last ?_
          simp only [opsAt, List.map_cons, List.map_nil, List.getElem?_toArray, List.getElem?_cons_zero, List.getElem?_cons_succ, Option.getD_some]
          go_simp
          repeat (go_big_quiet_step (fail))
          refine wpQuiet_nil ?_
          unfold planEnd
          go_wp2_with fail
          refine (LD.out a1 hala1 _).mono ?_
          rintro e wL ⟨la, d, rfl, hld, u⟩
          have LB := Lib.hid (ldI_b hld)
          have TL := Lib.hid (T7.out.near u)
          have SL := Lib.hid (u.keep SB7.out (by simp))
          clear u hld
          cases d
          · have HO : Hid (coDo B.ld s m = coEnd _ (doP s.pc wd a1 0 s.csrs 0) m) := Lib.hid (by rw [HG1.out]; unfold coGo; rw [if_neg (by rw [LB.out.1]; decide)])
            have DD := Lib.hid (DO.out a1 0 0 hala1 ZL (by decide))
            have WW := Lib.hid (WG.out a1 0 0 hala1 ZL (by decide))
            generalize doP s.pc wd a1 0 s.csrs 0 = X at *
            clear LB HG1
            go_wp2_with (first
              | go_skip
              | ((with_reducible refine at_op 104 ?_); refine L_load 115 (.tmp 6) rfl (by kernel_rfl) _ _ rfl (seenC s.pc wd a1 0 s.csrs).toArray (row_arr SL.out) Tryz.underlying115 rfl 9 info_seen rfl ?_))
            refine (DD.out _).mono ?_
            rintro e wD ⟨rfl, u⟩
            have TD := Lib.hid (TL.out.near u)
            clear u
            go_wp2_with (fail)
            refine (EN.out _ X _ TD.out.core WW.out).mono ?_
            rintro e wE ⟨rfl, r⟩
            have TE := Lib.hid (TD.out.cor r)
            clear r
            go_wp2_with (first
              | go_skip
              | ((with_reducible refine at_st 4 ?_); refine L_store_row 38 (.tmp 4) (.tmp 108) rfl (by kernel_rfl) zz.heap.size 0 rfl zR.cells 38 TE.out.ret (X.r.cells.toArray) rfl 7 info_ret rfl (by decide) (RetV.one _) ?_))
            intro wA bA uA zA
            rw [spl_all (by rfl)] at bA
            go_wp2_with (fail)
            refine bodyPost_ret (results_row_tmp rfl _ _ zz.heap.size 38 (X.r.cells.toArray) _ _ _ rfl rfl bA Tryz.underlying38 rfl info_ret) rfl ⟨by rw [HO.out]; rfl, ?_⟩
            rw [HO.out]
            exact TE.out.fin uA
          · have hx := LB.out.2 rfl
            have HG2 : Hid (coDo B.ld s m = if (B.ld m la).1.2 = false then coSick _ (B.ld m la).2 else coEnd _ (doP s.pc wd a1 0 s.csrs (B.ld m la).1.1) (B.ld m la).2) := Lib.hid (by rw [HG1.out]; unfold coGo; rw [if_pos LB.out.1, ← hx])
            have hxl : la < 2 ^ 32 := by rw [hx]; unfold ldA low2; have := u32_lt (((a1 : Nat) : Int) + (decodeP wd).imm); omega
            have BC := Lib.hid (B.call m la)
            have hnl := B.lt m la _ TL.out.bus
            clear LB hx HG1
            generalize B.ld m la = Y at *
            obtain ⟨⟨n, okb⟩, m'⟩ := Y
            dsimp only at BC HG2 hnl
            go_wp2_with (fail)
            rw [B.meth]
            simp only [Result.andThen_ok]
            rw [call_bus]
            cases okb
            · have HO := Lib.hid (HG2.out.trans (if_pos rfl))
              refine Calls.mono (BC.out _ TL.out.bus hxl) ?_
              rintro e wD ⟨rfl, o, u⟩
              have TD := Lib.hid (TL.out.load o u)
              clear o u
              go_wp2_with (fail)
              refine (SK.out _ _ TD.out.core).mono ?_
              rintro e wS ⟨rfl, r⟩
              have TS := Lib.hid (TD.out.cor r)
              clear r
              go_wp2_with (first
                | go_skip
                | ((with_reducible refine at_st 4 ?_); refine L_store_row 38 (.tmp 4) (.tmp 101) rfl (by kernel_rfl) zz.heap.size 0 rfl zR.cells 38 TS.out.ret (zR.cells.toArray) rfl 7 info_ret rfl (by decide) (RetV.one _) ?_))
              intro wA bA uA zA
              rw [spl_all (by rfl)] at bA
              go_wp2_with (fail)
              refine bodyPost_ret (results_row_tmp rfl _ _ zz.heap.size 38 (zR.cells.toArray) _ _ _ rfl rfl bA Tryz.underlying38 rfl info_ret) rfl ⟨by rw [HO.out]; rfl, ?_⟩
              rw [HO.out]
              exact TS.out.fin uA
            · have HO := Lib.hid (HG2.out.trans (if_neg (by decide)))
              have DD := Lib.hid (DO.out a1 0 n hala1 ZL hnl)
              have WW := Lib.hid (WG.out a1 0 n hala1 ZL hnl)
              generalize doP s.pc wd a1 0 s.csrs n = X at *
              clear HG2
              refine Calls.mono (BC.out _ TL.out.bus hxl) ?_
              rintro e wD ⟨rfl, o, u⟩
              have SD := Lib.hid (u.keep SL.out (fun hm => by have := (B.apart _ hm).2.1; have := TL.out.base; omega))
              have TD := Lib.hid (TL.out.load o u)
              clear o u
              go_wp2_with (first
                | go_skip
                | ((with_reducible refine at_op 104 ?_); refine L_load 115 (.tmp 6) rfl (by kernel_rfl) _ _ rfl (seenC s.pc wd a1 0 s.csrs).toArray (row_arr SD.out) Tryz.underlying115 rfl 9 info_seen rfl ?_))
              refine (DD.out _).mono ?_
              rintro e wF ⟨rfl, u⟩
              have TF := Lib.hid (TD.out.near u)
              clear u
              go_wp2_with (fail)
              refine (EN.out _ X _ TF.out.core WW.out).mono ?_
              rintro e wE ⟨rfl, r⟩
              have TE := Lib.hid (TF.out.cor r)
              clear r
              go_wp2_with (first
                | go_skip
                | ((with_reducible refine at_st 4 ?_); refine L_store_row 38 (.tmp 4) (.tmp 108) rfl (by kernel_rfl) zz.heap.size 0 rfl zR.cells 38 TE.out.ret (X.r.cells.toArray) rfl 7 info_ret rfl (by decide) (RetV.one _) ?_))
              intro wA bA uA zA
              rw [spl_all (by rfl)] at bA
              go_wp2_with (fail)
              refine bodyPost_ret (results_row_tmp rfl _ _ zz.heap.size 38 (X.r.cells.toArray) _ _ _ rfl rfl bA Tryz.underlying38 rfl info_ret) rfl ⟨by rw [HO.out]; rfl, ?_⟩
              rw [HO.out]
              exact TE.out.fin uA
    · have h1 := reads_two h2
      have HG := Lib.hid (HO1.out.trans (coArgs_11 B.ld s.seenS s.pc wd s.csrs (decodeP wd) m h1 h2))
      rw [h1]
      clear HO1 h1 h2
      have hff2 : s.seenS.ff < 9223372036854775806 := by show s.ff < _; omega
      have hff3 : (s.seenS.rr (decodeP wd).r1).ff < 9223372036854775806 := by
        have := rdF_le s.seenS.fl (((decodeP wd).r1 : Nat) : Int)
        show s.ff + rdF s.seenS.fl (((decodeP wd).r1 : Nat) : Int) < _
        omega
      have n0 : ∀ x : Near [k.b, k.d, b6] w5, x.1.cell? ⟨k.cb, 0, none⟩ = some (.pointer (some ⟨k.fb, 0, none⟩)) := fun x => by rw [cells_of (x.2.keep T5.out.core.cell NE.out.1)]; rfl
      have ni : ∀ x : Near [k.b, k.d, b6] w5, x.1.cell? ⟨b8, 2, none⟩ = some (.int .i64 (((decodeP wd).r1 : Nat) : Int)) := fun x => by rw [cells_of (x.2.keep IB5.out NE.out.2.1)]; rfl
      have FR := Lib.hid (FRead_calls k.fb k.b k.d (s.seenS).fl (s.seenS).ff (s.seenS).fa (((decodeP wd).r1 : Nat) : Int) _ (T5.out.near ((Upd.refl [] w5).drew)).core.file (by omega) (by omega) (by first | exact hff2 | exact hff3))
      have hala1 := rdV_lt (s.seenS).fl (((decodeP wd).r1 : Nat) : Int)
      generalize (rdV (s.seenS).fl (((decodeP wd).r1 : Nat) : Int)).1 = a1 at *
      generalize (rdV (s.seenS).fl (((decodeP wd).r1 : Nat) : Int)).2 = q1 at *
      go_wp2_with (fail)
      refine wp_region_plan (fun z => ∃ x : Near [k.b, k.d, b6] w5, z = x.1) [([0, 1, 2, 3, 4, 5], 6), ([7, 8, 9, 10], 11)] [12] (by kernel_rfl) (by kernel_rfl) (by kernel_rfl) (by kernel_rfl) (fun _ d _ _ _ h => by cases d <;> exact h) ⟨⟨(w5).drew, (Upd.refl _ _).drew⟩, rfl⟩ ?_
      refine plan_next ?_
      simp only [opsAt, List.map_cons, List.map_nil, List.getElem?_toArray, List.getElem?_cons_zero, List.getElem?_cons_succ, Option.getD_some]
      repeat (go_big_quiet_step (fail))
      refine wpQuiet_nil ?_
      refine plan_one rfl ?_
      go_wp2_with fail
      refine FR.out.mono ?_
      rintro e w6 ⟨rfl, r, u⟩
      have U6 : Upd [k.b, k.d, b6] w5 w6 := ((Upd.refl _ _).drew).trans (u.mono (fun x hx _ => by simp at hx; rcases hx with h | h <;> simp [h]))
      have T6 := Lib.hid ((T5.out.near (Upd.refl _ _).drew).file r u (by first | (rw [rdL_len]; exact ok.out.fl) | (rw [rdL_len]; exact (rdL_len _ _).trans ok.out.fl)))
      have SBm := Lib.hid (u.keep (show (w5).drew.heap[b6]? = _ from SB6.out) NE.out.2.2)
      have IBm := Lib.hid (u.keep (show (w5).drew.heap[b8]? = _ from IB5.out) (fun hm => NE.out.2.1 (by simp at hm; rcases hm with h | h <;> simp [h])))
      clear r u
      go_wp2_with fail
      refine plan_same ⟨⟨_, U6⟩, rfl⟩ ?_
      refine plan_next ?_
      simp only [opsAt, List.map_cons, List.map_nil, List.getElem?_toArray, List.getElem?_cons_zero, List.getElem?_cons_succ, Option.getD_some]
      repeat (go_big_quiet_step (fail))
      refine wpQuiet_nil ?_
      refine plan_one rfl ?_
      refine L_store_int 36 (.tmp 59) (.tmp 57) rfl (by kernel_rfl) b6 2 rfl (seenC s.pc wd 0 0 s.csrs) 115 SBm.out .u32 (a1 : Int) rfl info_u1 (show 2 < 9 by decide) ?_
      intro w7 bA uA zA
      have SB7 : Hid ((w7).heap[b6]? = some (.cells (seenC s.pc wd a1 0 s.csrs).toArray 115 (0, 0))) := Lib.hid bA
      have T7 := Lib.hid (T6.out.fr uA hz1)
      have IB7 := Lib.hid (uA.keep IBm.out (by simp; omega))
      have U7 : Upd [k.b, k.d, b6] w5 w7 := U6.trans (uA.mono (fun x hx _ => by simp at hx; simp [hx]))
      clear bA uA zA SBm IBm U6 n0 ni FR T6
      go_wp2_with fail
      refine plan_same ⟨⟨_, U7⟩, rfl⟩ ?_
      refine plan_last ?_
      simp only [opsAt, List.map_cons, List.map_nil, List.getElem?_toArray, List.getElem?_cons_zero, List.getElem?_cons_succ, Option.getD_some]
      go_simp
      repeat (go_big_quiet_step (fail))
      refine wpQuiet_nil ?_
      unfold planEnd
      go_wp2_with fail
      have n0 : ∀ x : Near [k.b, k.d, b6] w7, x.1.cell? ⟨k.cb, 0, none⟩ = some (.pointer (some ⟨k.fb, 0, none⟩)) := fun x => by rw [cells_of (x.2.keep T7.out.core.cell NE.out.1)]; rfl
      have ni : ∀ x : Near [k.b, k.d, b6] w7, x.1.cell? ⟨b8, 3, none⟩ = some (.int .i64 (((decodeP wd).r2 : Nat) : Int)) := fun x => by rw [cells_of (x.2.keep IB7.out NE.out.2.1)]; rfl
      have FR := Lib.hid (FRead_calls k.fb k.b k.d (s.seenS.rr (decodeP wd).r1).fl (s.seenS.rr (decodeP wd).r1).ff (s.seenS.rr (decodeP wd).r1).fa (((decodeP wd).r2 : Nat) : Int) _ (T7.out.near ((Upd.refl [] w7).drew)).core.file (by omega) (by omega) (by first | exact hff2 | exact hff3))
      have hala2 := rdV_lt (s.seenS.rr (decodeP wd).r1).fl (((decodeP wd).r2 : Nat) : Int)
      generalize (rdV (s.seenS.rr (decodeP wd).r1).fl (((decodeP wd).r2 : Nat) : Int)).1 = a2 at *
      generalize (rdV (s.seenS.rr (decodeP wd).r1).fl (((decodeP wd).r2 : Nat) : Int)).2 = q2 at *
      skip
      refine wp_region_plan (fun z => ∃ x : Near [k.b, k.d, b6] w7, z = x.1) [([0, 1, 2, 3, 4, 5], 6), ([7, 8, 9, 10], 11)] [12] (by kernel_rfl) (by kernel_rfl) (by kernel_rfl) (by kernel_rfl) (fun _ d _ _ _ h => by cases d <;> exact h) ⟨⟨(w7).drew, (Upd.refl _ _).drew⟩, rfl⟩ ?_
      refine plan_next ?_
      simp only [opsAt, List.map_cons, List.map_nil, List.getElem?_toArray, List.getElem?_cons_zero, List.getElem?_cons_succ, Option.getD_some]
      repeat (go_big_quiet_step (fail))
      refine wpQuiet_nil ?_
      refine plan_one rfl ?_
      go_wp2_with fail
      refine FR.out.mono ?_
      rintro e w8 ⟨rfl, r, u⟩
      have U6 : Upd [k.b, k.d, b6] w7 w8 := ((Upd.refl _ _).drew).trans (u.mono (fun x hx _ => by simp at hx; rcases hx with h | h <;> simp [h]))
      have T8 := Lib.hid ((T7.out.near (Upd.refl _ _).drew).file r u (by first | (rw [rdL_len]; exact ok.out.fl) | (rw [rdL_len]; exact (rdL_len _ _).trans ok.out.fl)))
      have SBm := Lib.hid (u.keep (show (w7).drew.heap[b6]? = _ from SB7.out) NE.out.2.2)
      have IBm := Lib.hid (u.keep (show (w7).drew.heap[b8]? = _ from IB7.out) (fun hm => NE.out.2.1 (by simp at hm; rcases hm with h | h <;> simp [h])))
      clear r u
      go_wp2_with fail
      refine plan_same ⟨⟨_, U6⟩, rfl⟩ ?_
      refine plan_next ?_
      simp only [opsAt, List.map_cons, List.map_nil, List.getElem?_toArray, List.getElem?_cons_zero, List.getElem?_cons_succ, Option.getD_some]
      repeat (go_big_quiet_step (fail))
      refine wpQuiet_nil ?_
      refine plan_one rfl ?_
      refine L_store_int 36 (.tmp 71) (.tmp 69) rfl (by kernel_rfl) b6 3 rfl (seenC s.pc wd a1 0 s.csrs) 115 SBm.out .u32 (a2 : Int) rfl info_u1 (show 3 < 9 by decide) ?_
      intro w9 bA uA zA
      have SB9 : Hid ((w9).heap[b6]? = some (.cells (seenC s.pc wd a1 a2 s.csrs).toArray 115 (0, 0))) := Lib.hid bA
      have T9 := Lib.hid (T8.out.fr uA hz1)
      have IB9 := Lib.hid (uA.keep IBm.out (by simp; omega))
      have U7 : Upd [k.b, k.d, b6] w7 w9 := U6.trans (uA.mono (fun x hx _ => by simp at hx; simp [hx]))
      clear bA uA zA SBm IBm U6 n0 ni FR T8
      go_wp2_with fail
      refine plan_same ⟨⟨_, U7⟩, rfl⟩ ?_
      by_cases hq : q1 = 2
      · subst hq
        have HO := Lib.hid (HG.out.trans (if_pos (.inl rfl)))
        refine plan_last ?_
        simp only [opsAt, List.map_cons, List.map_nil, List.getElem?_toArray, List.getElem?_cons_zero, List.getElem?_cons_succ, Option.getD_some]
        go_simp
        repeat (go_big_quiet_step (fail))
        refine wpQuiet_nil ?_
        unfold planEnd
        go_wp2_with fail
        refine (SK.out _ _ T9.out.core).mono ?_
        rintro e wS ⟨rfl, r⟩
        have TS := Lib.hid (T9.out.cor r)
        clear r
        go_wp2_with (first
          | go_skip
          | ((with_reducible refine at_st 4 ?_); refine L_store_row 38 (.tmp 4) (.tmp 80) rfl (by kernel_rfl) zz.heap.size 0 rfl zR.cells 38 TS.out.ret (zR.cells.toArray) rfl 7 info_ret rfl (by decide) (RetV.one _) ?_))
        intro wA bA uA zA
        rw [spl_all (by rfl)] at bA
        go_wp2_with (fail)
        refine bodyPost_ret (results_row_tmp rfl _ _ zz.heap.size 38 (zR.cells.toArray) _ _ _ rfl rfl bA Tryz.underlying38 rfl info_ret) rfl ⟨by rw [HO.out]; rfl, ?_⟩
        rw [HO.out]
        exact TS.out.fin uA
      · have dq : ((q1 : Int) == 2) = false := by rw [beq_eq_false_iff_ne]; omega
        by_cases hp : q2 = 2
        · subst hp
          have HO := Lib.hid (HG.out.trans (if_pos (.inr rfl)))
          refine plan_last ?_
          simp only [opsAt, List.map_cons, List.map_nil, List.getElem?_toArray, List.getElem?_cons_zero, List.getElem?_cons_succ, Option.getD_some]
          go_simp
          repeat (go_big_quiet_step (fail))
          refine wpQuiet_nil ?_
          unfold planEnd
          go_wp2_with fail
          refine (SK.out _ _ T9.out.core).mono ?_
          rintro e wS ⟨rfl, r⟩
          have TS := Lib.hid (T9.out.cor r)
          clear r
          go_wp2_with (first
            | go_skip
            | ((with_reducible refine at_st 4 ?_); refine L_store_row 38 (.tmp 4) (.tmp 80) rfl (by kernel_rfl) zz.heap.size 0 rfl zR.cells 38 TS.out.ret (zR.cells.toArray) rfl 7 info_ret rfl (by decide) (RetV.one _) ?_))
          intro wA bA uA zA
          rw [spl_all (by rfl)] at bA
          go_wp2_with (fail)
          refine bodyPost_ret (results_row_tmp rfl _ _ zz.heap.size 38 (zR.cells.toArray) _ _ _ rfl rfl bA Tryz.underlying38 rfl info_ret) rfl ⟨by rw [HO.out]; rfl, ?_⟩
          rw [HO.out]
          exact TS.out.fin uA
        · have dp : ((q2 : Int) == 2) = false := by rw [beq_eq_false_iff_ne]; omega
          have HG1 := Lib.hid (HG.out.trans (if_neg (fun h => h.elim hq hp)))
          have t1 := (cells_of SB9.out 1)
          have t2 := (cells_of SB9.out 2)
          simp only [seenC, List.getElem?_toArray, List.getElem?_cons_succ, List.getElem?_cons_zero] at t1 t2
          refine plan_last ?_
          simp only [opsAt, List.map_cons, List.map_nil, List.getElem?_toArray, List.getElem?_cons_zero, List.getElem?_cons_succ, Option.getD_some]
          go_simp
          repeat (go_big_quiet_step (fail))
          refine wpQuiet_nil ?_
          unfold planEnd
          go_wp2_with fail
          refine (LD.out a1 hala1 _).mono ?_
          rintro e wL ⟨la, d, rfl, hld, u⟩
          have LB := Lib.hid (ldI_b hld)
          have TL := Lib.hid (T9.out.near u)
          have SL := Lib.hid (u.keep SB9.out (by simp))
          clear u hld
          cases d
          · have HO : Hid (coDo B.ld s m = coEnd _ (doP s.pc wd a1 a2 s.csrs 0) m) := Lib.hid (by rw [HG1.out]; unfold coGo; rw [if_neg (by rw [LB.out.1]; decide)])
            have DD := Lib.hid (DO.out a1 a2 0 hala1 hala2 (by decide))
            have WW := Lib.hid (WG.out a1 a2 0 hala1 hala2 (by decide))
            generalize doP s.pc wd a1 a2 s.csrs 0 = X at *
            clear LB HG1
            go_wp2_with (first
              | go_skip
              | ((with_reducible refine at_op 104 ?_); refine L_load 115 (.tmp 6) rfl (by kernel_rfl) _ _ rfl (seenC s.pc wd a1 a2 s.csrs).toArray (row_arr SL.out) Tryz.underlying115 rfl 9 info_seen rfl ?_))
            refine (DD.out _).mono ?_
            rintro e wD ⟨rfl, u⟩
            have TD := Lib.hid (TL.out.near u)
            clear u
            go_wp2_with (fail)
            refine (EN.out _ X _ TD.out.core WW.out).mono ?_
            rintro e wE ⟨rfl, r⟩
            have TE := Lib.hid (TD.out.cor r)
            clear r
            go_wp2_with (first
              | go_skip
              | ((with_reducible refine at_st 4 ?_); refine L_store_row 38 (.tmp 4) (.tmp 108) rfl (by kernel_rfl) zz.heap.size 0 rfl zR.cells 38 TE.out.ret (X.r.cells.toArray) rfl 7 info_ret rfl (by decide) (RetV.one _) ?_))
            intro wA bA uA zA
            rw [spl_all (by rfl)] at bA
            go_wp2_with (fail)
            refine bodyPost_ret (results_row_tmp rfl _ _ zz.heap.size 38 (X.r.cells.toArray) _ _ _ rfl rfl bA Tryz.underlying38 rfl info_ret) rfl ⟨by rw [HO.out]; rfl, ?_⟩
            rw [HO.out]
            exact TE.out.fin uA
          · have hx := LB.out.2 rfl
            have HG2 : Hid (coDo B.ld s m = if (B.ld m la).1.2 = false then coSick _ (B.ld m la).2 else coEnd _ (doP s.pc wd a1 a2 s.csrs (B.ld m la).1.1) (B.ld m la).2) := Lib.hid (by rw [HG1.out]; unfold coGo; rw [if_pos LB.out.1, ← hx])
            have hxl : la < 2 ^ 32 := by rw [hx]; unfold ldA low2; have := u32_lt (((a1 : Nat) : Int) + (decodeP wd).imm); omega
            have BC := Lib.hid (B.call m la)
            have hnl := B.lt m la _ TL.out.bus
            clear LB hx HG1
            generalize B.ld m la = Y at *
            obtain ⟨⟨n, okb⟩, m'⟩ := Y
            dsimp only at BC HG2 hnl
            go_wp2_with (fail)
            rw [B.meth]
            simp only [Result.andThen_ok]
            rw [call_bus]
            cases okb
            · have HO := Lib.hid (HG2.out.trans (if_pos rfl))
              refine Calls.mono (BC.out _ TL.out.bus hxl) ?_
              rintro e wD ⟨rfl, o, u⟩
              have TD := Lib.hid (TL.out.load o u)
              clear o u
              go_wp2_with (fail)
              refine (SK.out _ _ TD.out.core).mono ?_
              rintro e wS ⟨rfl, r⟩
              have TS := Lib.hid (TD.out.cor r)
              clear r
              go_wp2_with (first
                | go_skip
                | ((with_reducible refine at_st 4 ?_); refine L_store_row 38 (.tmp 4) (.tmp 101) rfl (by kernel_rfl) zz.heap.size 0 rfl zR.cells 38 TS.out.ret (zR.cells.toArray) rfl 7 info_ret rfl (by decide) (RetV.one _) ?_))
              intro wA bA uA zA
              rw [spl_all (by rfl)] at bA
              go_wp2_with (fail)
              refine bodyPost_ret (results_row_tmp rfl _ _ zz.heap.size 38 (zR.cells.toArray) _ _ _ rfl rfl bA Tryz.underlying38 rfl info_ret) rfl ⟨by rw [HO.out]; rfl, ?_⟩
              rw [HO.out]
              exact TS.out.fin uA
            · have HO := Lib.hid (HG2.out.trans (if_neg (by decide)))
              have DD := Lib.hid (DO.out a1 a2 n hala1 hala2 hnl)
              have WW := Lib.hid (WG.out a1 a2 n hala1 hala2 hnl)
              generalize doP s.pc wd a1 a2 s.csrs n = X at *
              clear HG2
              refine Calls.mono (BC.out _ TL.out.bus hxl) ?_
              rintro e wD ⟨rfl, o, u⟩
              have SD := Lib.hid (u.keep SL.out (fun hm => by have := (B.apart _ hm).2.1; have := TL.out.base; omega))
              have TD := Lib.hid (TL.out.load o u)
              clear o u
              go_wp2_with (first
                | go_skip
                | ((with_reducible refine at_op 104 ?_); refine L_load 115 (.tmp 6) rfl (by kernel_rfl) _ _ rfl (seenC s.pc wd a1 a2 s.csrs).toArray (row_arr SD.out) Tryz.underlying115 rfl 9 info_seen rfl ?_))
              refine (DD.out _).mono ?_
              rintro e wF ⟨rfl, u⟩
              have TF := Lib.hid (TD.out.near u)
              clear u
              go_wp2_with (fail)
              refine (EN.out _ X _ TF.out.core WW.out).mono ?_
              rintro e wE ⟨rfl, r⟩
              have TE := Lib.hid (TF.out.cor r)
              clear r
              go_wp2_with (first
                | go_skip
                | ((with_reducible refine at_st 4 ?_); refine L_store_row 38 (.tmp 4) (.tmp 108) rfl (by kernel_rfl) zz.heap.size 0 rfl zR.cells 38 TE.out.ret (X.r.cells.toArray) rfl 7 info_ret rfl (by decide) (RetV.one _) ?_))
              intro wA bA uA zA
              rw [spl_all (by rfl)] at bA
              go_wp2_with (fail)
              refine bodyPost_ret (results_row_tmp rfl _ _ zz.heap.size 38 (X.r.cells.toArray) _ _ _ rfl rfl bA Tryz.underlying38 rfl info_ret) rfl ⟨by rw [HO.out]; rfl, ?_⟩
              rw [HO.out]
              exact TE.out.fin uA
end Go.Proofs.YtmdjhahafjlebaaGreatDoor
