/- A core in memory: Cycle. -/
import Derived.Test.YtmdjhahafjlebaaGreatDoorQD35
import Derived.Test.YtmdjhahafjlebaaGreatDoorQD33
import Derived.Test.YtmdjhahafjlebaaGreatDoorQD46
import Derived.Test.YtmdjhahafjlebaaGreatDoorQD39
import Derived.Test.YtmdjhahafjlebaaGreatDoorQD36
namespace Go.Proofs.YtmdjhahafjlebaaGreatDoor
open Go.RowKit Go.Dio
set_option linter.unusedSimpArgs false
set_option linter.unusedVariables false

theorem At3.cor2 {σ : Type} {rv : Value} {k : CoB} {base : Nat} {B : Bus σ rv k base} {s s' : CoS} {m m' : σ} {zz w w' : World} (h : At3 B s m zz w) (r : CoR2 B s' m' w w') : At3 B s' m' zz w' :=
  ⟨r.core, r.bus, r.upd.keep h.ret (fun hm => by
    rcases List.mem_append.1 hm with h1 | h1
    · have := h.lt _ h1; omega
    · have := (B.apart _ h1).2.1; have := h.base; omega), h.upd.trans r.upd, h.lt, h.tab, h.base⟩
theorem scr_cf (s : CoS) : s.scr.cf ≤ s.cf + 1 ∧ s.scr.ff ≤ s.ff + 1 := ⟨Nat.add_le_add_left (getF_le _ _) _, Nat.add_le_add_left (getF_le _ _) _⟩
set_option maxRecDepth 20000 in
set_option maxHeartbeats 8000000 in
theorem cycle_c {σ : Type} {rv : Value} {k : CoB} {base : Nat} (B : Bus σ rv k base) (s : CoS) (m : σ) (zz : World) (h : CoreAt k s zz) (hb : B.ok m zz) (hbase : base ≤ zz.heap.size) (hf : s.cf < 9223372036854775700) (hff : s.ff < 9223372036854775700) :
    Calls Tryz.prog 15 #[.pointer (some ⟨k.cb, 0, none⟩), .iface 33 rv] zz fun e z' => e = .returned (.tuple #[.agg (coCycle B.ld s m).1.cells.toArray, .int .i64 ((coCycle B.ld s m).2.1 : Int)]) ∧ CoR2 B (coCycle B.ld s m).2.2.1 (coCycle B.ld s m).2.2.2 zz z' := by
  have H := Lib.hid h
  have HB := Lib.hid hb
  have HBA := Lib.hid hbase
  have HZ := Lib.hid h.lt
  have HT := Lib.hid h.tz.lt
  have ok := Lib.hid h.ok
  have RG := Lib.hid (fun w (h : CoreAt k s w) => right_calls k s w h)
  have SC := Lib.hid (fun w (h : CoreAt k s w) => scrub_calls k s w h (by omega) (by omega))
  have SK := Lib.hid (fun s' w (h : CoreAt k s' w) => sick_calls k s' w h)
  have hs2 := scr_cf s
  have FC := Lib.hid (fun w (h : CoreAt k s.scr w) (hb : B.ok m w) (hz : base ≤ w.heap.size) => fetch_c B s.scr m w h hb hz (by omega))
  have DC := Lib.hid (fun w (h : CoreAt k s.scr w) (hb : B.ok m w) (hz : base ≤ w.heap.size) => do_c B s.scr m w h hb hz (by omega) (by omega))
  clear h hb hbase
  go_enter Tryz.func15, Tryz.ntmps15
  go_upto_region 1 with (fail)
  generalize hW : World.alloc zz _ = z0
  have R0 : Hid (z0.heap[zz.heap.size]? = some (.cells zR.cells.toArray 38 (0, 0))) := Lib.hid (by rw [← hW]; exact Go.heap_alloc_last zz _)
  have U0 : Hid (Upd [] zz z0) := Lib.hid (by rw [← hW]; exact (Upd.refl _ _).alloc _)
  clear hW
  have T0 : Hid (At3 B s m zz z0) := Lib.hid ⟨H.out.upd0 U0.out, B.st m [] zz z0 HB.out U0.out (by simp), R0.out, U0.out.mono (by simp), HZ.out, HT.out, HBA.out⟩
  clear H HB HBA HZ HT U0 R0
  cases hr : s.right
  · have HO : Hid (coCycle B.ld s m = coSick s m) := Lib.hid (by unfold coCycle; rw [if_pos hr])
    rw [hr] at RG
    clear hr SC FC DC
    go_wp2_with (fail)
    refine (RG.out _ T0.out.core).mono ?_
    rintro e w1 ⟨rfl, rfl⟩
    go_wp2_with (fail)
    refine (SK.out _ _ T0.out.core).mono ?_
    rintro e w2 ⟨rfl, r⟩
    have T3 := Lib.hid (T0.out.cor r)
    clear r
    go_wp2_with (first
      | go_skip
      | ((with_reducible refine at_st 4 ?_); refine L_store_row 38 (.tmp 4) (.tmp 24) rfl (by kernel_rfl) zz.heap.size 0 rfl zR.cells 38 T3.out.ret (zR.cells.toArray) rfl 7 info_ret rfl (by decide) (RetV.one _) ?_))
    intro wA bA uA zA
    rw [spl_all (by rfl)] at bA
    go_wp2_with (fail)
    refine bodyPost_ret (results_row_tmp rfl _ _ zz.heap.size 38 (zR.cells.toArray) _ _ _ rfl rfl bA Tryz.underlying38 rfl info_ret) rfl ⟨by rw [HO.out]; rfl, ?_⟩
    rw [HO.out]
    exact T3.out.fin uA
  · rw [hr] at RG
    cases ho : s.scrOk
    · have HO : Hid (coCycle B.ld s m = coSick s.scr m) := Lib.hid (by unfold coCycle; rw [if_neg (by rw [hr]; decide), if_pos ho])
      rw [ho] at SC
      clear hr ho FC DC
      go_wp2_with (fail)
      refine (RG.out _ T0.out.core).mono ?_
      rintro e w1 ⟨rfl, rfl⟩
      go_wp2_with (fail)
      refine (SC.out _ T0.out.core).mono ?_
      rintro e w1 ⟨rfl, r⟩
      have T1 := Lib.hid (T0.out.cor r)
      clear r
      go_wp2_with (fail)
      refine (SK.out _ _ T1.out.core).mono ?_
      rintro e w2 ⟨rfl, r⟩
      have T3 := Lib.hid (T1.out.cor r)
      clear r
      go_wp2_with (first
        | go_skip
        | ((with_reducible refine at_st 4 ?_); refine L_store_row 38 (.tmp 4) (.tmp 24) rfl (by kernel_rfl) zz.heap.size 0 rfl zR.cells 38 T3.out.ret (zR.cells.toArray) rfl 7 info_ret rfl (by decide) (RetV.one _) ?_))
      intro wA bA uA zA
      rw [spl_all (by rfl)] at bA
      go_wp2_with (fail)
      refine bodyPost_ret (results_row_tmp rfl _ _ zz.heap.size 38 (zR.cells.toArray) _ _ _ rfl rfl bA Tryz.underlying38 rfl info_ret) rfl ⟨by rw [HO.out]; rfl, ?_⟩
      rw [HO.out]
      exact T3.out.fin uA
    · have HO1 : Hid (coCycle B.ld s m = if pget (nth s.ll 0) = 0 then coFetch B.ld s.scr m else if 0 < pget (nth s.ll 1) then (zR, 0, { s.scr with ll := s.ll.set 1 (pput (pget (nth s.ll 1) - 1)) }, m) else coDo B.ld s.scr m) := Lib.hid (by unfold coCycle; rw [if_neg (by rw [hr]; decide), if_neg (by rw [ho]; decide)])
      rw [ho] at SC
      clear hr ho
      go_wp2_with (fail)
      refine (RG.out _ T0.out.core).mono ?_
      rintro e w1 ⟨rfl, rfl⟩
      go_wp2_with (fail)
      refine (SC.out _ T0.out.core).mono ?_
      rintro e w1 ⟨rfl, r⟩
      have T1 := Lib.hid (T0.out.cor r)
      have hz1 : base ≤ w1.heap.size := Nat.le_trans T1.out.base T1.out.upd.size
      clear r SC RG
      have c3 := T1.out.core.c3
      have G0 := Lib.hid (LGet_calls k.lb k.ld s.ll 0 _ T1.out.core.lat (by rw [ok.out.ll]; decide))
      have G1 := Lib.hid (LGet_calls k.lb k.ld s.ll 1 _ T1.out.core.lat (by rw [ok.out.ll]; decide))
      have P1 := Lib.hid (fun v hv => LPut_calls k.lb k.ld s.ll 1 v _ T1.out.core.lat (by rw [ok.out.ll]; decide) hv)
      have hl1 := pget_lt (nth s.ll 1)
      generalize pget (nth s.ll 0) = p0 at *
      generalize pget (nth s.ll 1) = p1 at *
      by_cases h0 : p0 = 0
      · subst h0
        have HO := Lib.hid (HO1.out.trans (if_pos rfl))
        go_wp2_with (fail)
        refine G0.out.mono ?_
        rintro e w2 ⟨rfl, rfl⟩
        go_wp2_with (fail)
        refine (FC.out _ T1.out.core T1.out.bus hz1).mono ?_
        rintro e w2 ⟨rfl, r⟩
        have T3 := Lib.hid (T1.out.cor2 r)
        clear r FC DC HO1 G0 G1 P1 c3
        generalize coFetch B.ld s.scr m = X at *
        go_wp2_with (first
          | go_skip
          | ((with_reducible refine at_st 4 ?_); refine L_store_row 38 (.tmp 4) (.tmp 39) rfl (by kernel_rfl) zz.heap.size 0 rfl zR.cells 38 T3.out.ret (X.1.cells.toArray) rfl 7 info_ret rfl (by decide) (RetV.one _) ?_))
        intro wA bA uA zA
        rw [spl_all (by rfl)] at bA
        go_wp2_with (fail)
        refine bodyPost_ret (results_row_tmp rfl _ _ zz.heap.size 38 (X.1.cells.toArray) _ _ _ rfl rfl bA Tryz.underlying38 rfl info_ret) rfl ⟨by rw [HO.out]; rfl, ?_⟩
        rw [HO.out]
        exact T3.out.fin uA
      · have d0 : ((p0 : Int) == 0) = false := by rw [beq_eq_false_iff_ne]; omega
        have HO2 := Lib.hid (HO1.out.trans (if_neg h0))
        by_cases h1 : 0 < p1
        · have HO := Lib.hid (HO2.out.trans (if_pos h1))
          have d1 : decide ((0 : Int) < (p1 : Int)) = true := decide_eq_true (by omega)
          have d1' : decide (0 < p1) = true := decide_eq_true h1
          have hs : (p1 : Int) - 1 = ((p1 - 1 : Nat) : Int) := by omega
          have hw := wrap32 (n := ((p1 - 1 : Nat) : Int)) (by omega) (by omega)
          have PP := Lib.hid (P1.out (p1 - 1) (by omega))
          have hm : ((p1 - 1 : Nat) : Int) % 4294967296 = ((p1 - 1 : Nat) : Int) := by omega
          generalize p1 - 1 = p2 at *
          go_wp2_with (fail)
          refine G0.out.mono ?_
          rintro e w2 ⟨rfl, rfl⟩
          go_wp2_with (fail)
          refine G1.out.mono ?_
          rintro e w2 ⟨rfl, rfl⟩
          go_wp2_with (fail)
          refine PP.out.mono ?_
          rintro e w2 ⟨rfl, r, u⟩
          have T3 := Lib.hid (T1.out.lat r u (by simpa using ok.out.ll))
          clear r u FC DC HO1 HO2 G0 G1 P1 PP c3
          go_wp2_with (first
            | go_skip
            | ((with_reducible refine at_st 4 ?_); refine L_store_row 38 (.tmp 4) (.tmp 58) rfl (by kernel_rfl) zz.heap.size 0 rfl zR.cells 38 T3.out.ret (zR.cells.toArray) rfl 7 info_ret rfl (by decide) (RetV.one _) ?_))
          intro wA bA uA zA
          rw [spl_all (by rfl)] at bA
          go_wp2_with (fail)
          refine bodyPost_ret (results_row_tmp rfl _ _ zz.heap.size 38 (zR.cells.toArray) _ _ _ rfl rfl bA Tryz.underlying38 rfl info_ret) rfl ⟨by rw [HO.out]; rfl, ?_⟩
          rw [HO.out]
          exact T3.out.fin uA
        · have HO := Lib.hid (HO2.out.trans (if_neg h1))
          have d1 : decide ((0 : Int) < (p1 : Int)) = false := decide_eq_false (by omega)
          have d1' : decide (0 < p1) = false := decide_eq_false h1
          go_wp2_with (fail)
          refine G0.out.mono ?_
          rintro e w2 ⟨rfl, rfl⟩
          go_wp2_with (fail)
          refine G1.out.mono ?_
          rintro e w2 ⟨rfl, rfl⟩
          go_wp2_with (fail)
          refine (DC.out _ T1.out.core T1.out.bus hz1).mono ?_
          rintro e w2 ⟨rfl, r⟩
          have T3 := Lib.hid (T1.out.cor2 r)
          clear r FC DC HO1 HO2 G0 G1 P1 c3
          generalize coDo B.ld s.scr m = X at *
          go_wp2_with (first
            | go_skip
            | ((with_reducible refine at_st 4 ?_); refine L_store_row 38 (.tmp 4) (.tmp 62) rfl (by kernel_rfl) zz.heap.size 0 rfl zR.cells 38 T3.out.ret (X.1.cells.toArray) rfl 7 info_ret rfl (by decide) (RetV.one _) ?_))
          intro wA bA uA zA
          rw [spl_all (by rfl)] at bA
          go_wp2_with (fail)
          refine bodyPost_ret (results_row_tmp rfl _ _ zz.heap.size 38 (X.1.cells.toArray) _ _ _ rfl rfl bA Tryz.underlying38 rfl info_ret) rfl ⟨by rw [HO.out]; rfl, ?_⟩
          rw [HO.out]
          exact T3.out.fin uA
end Go.Proofs.YtmdjhahafjlebaaGreatDoor

namespace Go.Proofs.YtmdjhahafjlebaaGreatDoor
open Go.RowKit Go.Dio
set_option linter.unusedSimpArgs false
set_option linter.unusedVariables false

theorem and3 {a : Nat} (h : a < 2 ^ 32) : bits .and .u32 (a : Int) 3 = ((a % 4 : Nat) : Int) := by
  have e : bits .and .u32 (a : Int) ((3 : Nat) : Int) = ((a &&& 3 : Nat) : Int) := and32 a 3 h (by decide)
  rw [show (3 : Nat) = 2 ^ 2 - 1 by decide, Nat.and_two_pow_sub_one_eq_mod] at e
  exact e
set_option maxHeartbeats 1000000 in
theorem memo_load (mb : Nat) (m : List Nat) (a : Nat) (zz : World) (hm : zz.heap[mb]? = some (.cells (nums .u32 m) 36 (0, 0))) (hl : m.length = 1024) (ha : a < 2 ^ 32) :
    Calls Tryz.prog 170 #[.agg #[.slice (some ⟨mb, 0, none⟩) 1024 1024], .int .u32 (a : Int)] zz fun e z' => e = .returned (.tuple #[.int .u32 ((memoLd m a).1.1 : Int), .bool (memoLd m a).1.2]) ∧ Upd [] zz z' := by
  have h3 := and3 ha
  unfold memoLd
  by_cases h1 : a % 4 = 0
  · rw [h1] at h3
    by_cases h2 : a < 4096
    · rw [if_pos ⟨h1, h2⟩]
      have d2 : decide ((4096 : Int) ≤ (a : Int)) = false := decide_eq_false (by omega)
      have q1 : (a : Int) / 4 = ((a / 4 : Nat) : Int) := by omega
      have q2 : (a : Int).tdiv 4 = ((a / 4 : Nat) : Int) := by rw [Int.tdiv_eq_ediv_of_nonneg (by omega)]; omega
      have q3 : ((a / 4 : Nat) : Int) % 4294967296 = ((a / 4 : Nat) : Int) := by omega
      have hq : a / 4 < 1024 := by omega
      have b1 : decide (((a / 4 : Nat) : Int) < 1024) = true := decide_eq_true (by omega)
      have cw : (zz.alloc (.cells #[.slice (some ⟨mb, 0, none⟩) 1024 1024] 33)).cell? ⟨mb, a / 4, none⟩ = some (.int .u32 ((nth m (a / 4) : Nat) : Int)) := by
        rw [cells_of (((Upd.refl [] zz).alloc (.cells #[.slice (some ⟨mb, 0, none⟩) 1024 1024] 33)).keep hm (by simp))]; exact nums_nth .u32 m _ (by omega)
      generalize nth m (a / 4) = v at *
      generalize a / 4 = q at *
      clear h1 hm
      go_enter Tryz.func170, Tryz.ntmps170
      go_wp2_with (fail)
      go_ret2
      exact ⟨rfl, (Upd.refl _ _).alloc _⟩
    · rw [if_neg (fun h => h2 h.2)]
      have d2 : decide ((4096 : Int) ≤ (a : Int)) = true := decide_eq_true (by omega)
      clear h1 hm
      go_enter Tryz.func170, Tryz.ntmps170
      go_wp2_with (fail)
      go_ret2
      exact ⟨rfl, (Upd.refl _ _).alloc _⟩
  · rw [if_neg (fun h => h1 h.1)]
    have d1 : (((a % 4 : Nat) : Int) != 0) = true := by simp; omega
    have d1' : (((a % 4 : Nat) : Int) == 0) = false := by rw [beq_eq_false_iff_ne]; omega
    generalize a % 4 = r at *
    clear hm
    go_enter Tryz.func170, Tryz.ntmps170
    go_wp2_with (fail)
    go_ret2
    exact ⟨rfl, (Upd.refl _ _).alloc _⟩
def memoV (mb : Nat) : Value := .agg #[.slice (some ⟨mb, 0, none⟩) 1024 1024]
theorem memo_meth (v : Value) (n : Nat) (w : World) : (method (n + 1) 33 (.agg #[v]) "Load").run Tryz.prog w = .ok (170, .agg #[v]) w := by kernel_rfl
/-- A row of words as a bus. -/
def memoBus (mb : Nat) (k : CoB) (base : Nat) (hk : mb ∉ k.fp) (hb : mb < base) : Bus (List Nat) (memoV mb) k base where
  fp := []
  ok m w := w.heap[mb]? = some (.cells (nums .u32 m) 36 (0, 0)) ∧ MemOk m
  ld := memoLd
  lt m a w h := by
    unfold memoLd
    dsimp only
    split
    · exact h.2.at _
    · exact (show (0 : Nat) < 2 ^ 32 by decide)
  call m a w h ha := (memo_load mb m a w h.1 h.2.len ha).mono fun e w' ⟨h1, h2⟩ => ⟨h1, ⟨h2.keep h.1 (by simp), h.2⟩, h2⟩
  meth n w := memo_meth _ n w
  st m S w w' h u hS := ⟨u.keep h.1 (fun hm => by
    rcases hS mb hm with h1 | h1
    · exact hk h1
    · omega), h.2⟩
  apart x hx := by cases hx
theorem info_memo : (Tryz.prog.info? 33).map (·.size) = some 1 := by kernel_rfl
set_option maxRecDepth 20000 in
set_option maxHeartbeats 2000000 in
theorem memory_calls (A : Option Addr) (ns : List Nat) (N c : Nat) (zz : World) (hN : N = ns.length) (hA : NumsAt zz .u32 A ns) (hl : N ≤ 1024) :
    Calls Tryz.prog 13 #[.slice A N c] zz fun e z' => ∃ mb, e = .returned (memoV mb) ∧ z'.heap[mb]? = some (.cells (nums .u32 (newS ns).mem) 36 (0, 0)) ∧ Upd [] zz z' ∧ zz.heap.size ≤ mb := by
  obtain ⟨Z, hZ, hmk0⟩ := ex_rep 1024 (by decide)
  have hmk : ∀ u : World, (Instr.makeSlice 23 (.int .i64 1024) (.int .i64 1024)).run Tryz.prog u = .ok (.slice (some ⟨u.heap.size, 0, none⟩) 1024 1024) (u.alloc (.cells (nums .u32 Z) 36)) := hmk0
  have HZL := Lib.hid hZ
  have HA := Lib.hid hA
  have HN := Lib.hid hN
  have hns : ns.length ≤ 1024 := by rw [← hN]; exact hl
  clear hmk0 hZ hA hN
  go_enter Tryz.func13, Tryz.ntmps13
  go_upto_region 1 with (fail)
  generalize hW : World.alloc zz _ = z0
  have R0 : Hid (z0.heap[zz.heap.size]? = some (.cells #[.slice none 0 0] 33 (0, 0))) := Lib.hid (by rw [← hW]; exact Go.heap_alloc_last zz _)
  have U0 : Hid (Upd [] zz z0) := Lib.hid (by rw [← hW]; exact (Upd.refl _ _).alloc _)
  clear hW
  have hz0 : zz.heap.size < z0.heap.size := lt_of_block R0.out
  have G1 := Lib.hid (Go.heap_alloc_last z0 (.cells (nums .u32 Z) 36))
  have M1 := Lib.hid (heap2 z0 (.cells (nums .u32 Z) 36) (.cells #[.slice (some ⟨z0.heap.size, 0, none⟩) 1024 1024] 33))
  have G2 := Lib.hid (heap_old G1.out (.cells #[.slice (some ⟨z0.heap.size, 0, none⟩) 1024 1024] 33))
  have U2 := Lib.hid (((Upd.refl [] z0).alloc (.cells (nums .u32 Z) 36)).alloc (.cells #[.slice (some ⟨z0.heap.size, 0, none⟩) 1024 1024] 33))
  have A2 := Lib.hid (HA.out.of_upd (U0.out.trans U2.out))
  have R2 := Lib.hid (U2.out.keep R0.out (by simp))
  clear G1
  go_wp2_with (first
    | go_skip
    | ((with_reducible refine at_op 9 ?_); refine L_cpy2 rfl (.tmp 7) (.tmp 8) rfl z0.heap.size 1024 Z HZL.out rfl _ _ _ ns rfl HN.out.symm A2.out G2.out hns ?_))
  intro w3 g3 u3
  have G3 := Lib.hid g3
  have M3 := Lib.hid (u3.keep M1.out (by simp))
  have R3 := Lib.hid (u3.keep R2.out (by simp; omega))
  have U3 := Lib.hid ((U0.out.trans U2.out).then u3 (fun x hx hlt => by simp at hx; omega))
  clear g3 u3 G2 M1 U2 A2 R2
  go_wp2_with (first
    | go_skip
    | ((with_reducible refine at_op 10 ?_); refine L_load 33 (.tmp 3) rfl (by kernel_rfl) _ _ rfl #[.slice (some ⟨z0.heap.size, 0, none⟩) 1024 1024] (row_arr M3.out) Tryz.underlying33 rfl 1 info_memo rfl ?_)
    | ((with_reducible refine at_st 2 ?_); refine L_store_row 33 (.tmp 2) (.tmp 10) rfl (by kernel_rfl) zz.heap.size 0 rfl [.slice none 0 0] 33 R3.out #[.slice (some ⟨z0.heap.size, 0, none⟩) 1024 1024] rfl 1 info_memo rfl (show 0 + 1 ≤ 1 by decide) (by simp [Value.oneCell']) ?_))
  intro wA bA uA zA
  rw [spl_all (by rfl)] at bA
  go_wp2_with (fail)
  refine bodyPost_ret (results_cell_row rfl _ _ zz.heap.size 33 #[.slice (some ⟨z0.heap.size, 0, none⟩) 1024 1024] _ _ rfl bA Tryz.underlying33 rfl info_memo) rfl ⟨z0.heap.size, rfl, ?_, ?_, by omega⟩
  · exact uA.keep G3.out (by simp; omega)
  · exact U3.out.then uA (fun x hx hlt => by simp at hx; omega)
end Go.Proofs.YtmdjhahafjlebaaGreatDoor

namespace Go.Proofs.YtmdjhahafjlebaaGreatDoor
open Go.RowKit Go.Dio
set_option linter.unusedSimpArgs false
set_option linter.unusedVariables false set_option linter.unusedSectionVars false

/-- The core of a run: what a call has done to it and to its bus. -/
structure Nx {σ : Type} {rv : Value} {k : CoB} {base : Nat} (B : Bus σ rv k base) (s : CoS) (m : σ) (zz w : World) : Prop where
  core : CoreAt k s w
  bus : B.ok m w
  upd : Upd (k.fp ++ B.fp) zz w
  base : base ≤ zz.heap.size
  lt : ∀ x ∈ k.fp, x < zz.heap.size
section
variable {σ : Type} {rv : Value} {k : CoB} {base : Nat} {B : Bus σ rv k base} {s s' : CoS} {m m' : σ} {zz w w' : World}
theorem Nx.refl (h : CoreAt k s w) (hb : B.ok m w) (hz : base ≤ w.heap.size) : Nx B s m w w := ⟨h, hb, Upd.refl _ _, hz, h.lt⟩
theorem Nx.near (h : Nx B s m zz w) (u : Upd [] w w') : Nx B s m zz w' :=
  ⟨h.core.upd0 u, B.st m [] w w' h.bus u (by simp), h.upd.trans (u.mono (by simp)), h.base, h.lt⟩
theorem Nx.cyc (h : Nx B s m zz w) (r : CoR2 B s' m' w w') : Nx B s' m' zz w' := ⟨r.core, r.bus, h.upd.trans r.upd, h.base, h.lt⟩
theorem Nx.sz (h : Nx B s m zz w) : base ≤ w.heap.size := Nat.le_trans h.base h.upd.size
theorem Nx.fr {x : Nat} (h : Nx B s m zz w) (u : Upd [x] w w') (hx : zz.heap.size ≤ x) (ht : 0 < zz.heap.size) : Nx B s m zz w' :=
  ⟨h.core.upd u (fun y hy hm => by have := h.lt y hy; simp at hm; omega) (fun hm => by simp at hm; omega), B.st m _ w w' h.bus u (fun y hy => .inr (by have := h.base; simp at hy; omega)), h.upd.then u (fun y hy hlt => by simp at hy; omega), h.base, h.lt⟩
theorem Nx.keep (h : Nx B s m zz w) {b : Nat} {o : Obj} (hb : zz.heap[b]? = some o) (hk : b ∉ k.fp) (hf : b ∉ B.fp) : w.heap[b]? = some o := h.upd.keep hb (fun hm => (List.mem_append.1 hm).elim hk hf)
end
theorem cyc_f {σ : Type} (ld : σ → Nat → (Nat × Bool) × σ) (s : CoS) (m : σ) : (coCycle ld s m).2.2.1.cf ≤ s.cf + 7 ∧ (coCycle ld s m).2.2.1.ff ≤ s.ff + 3 := by
  have h1 := scr_cf s
  have hsn : ∀ t : CoS, t.seenS.cf ≤ t.cf + 6 ∧ t.seenS.ff = t.ff := fun t => ⟨seenR_f t.cl t.cf 6, rfl⟩
  have hrd : ∀ (t : CoS) b i, (t.rd b i).cf = t.cf ∧ (t.rd b i).ff ≤ t.ff + 1 := fun t b i => by
    unfold CoS.rd
    split
    · exact ⟨rfl, Nat.add_le_add_left (rdF_le _ _) _⟩
    · exact ⟨rfl, Nat.le_succ _⟩
  have hsk : ∀ (t : CoS) (x : σ), (coSick t x).2.2.1.cf = t.cf ∧ (coSick t x).2.2.1.ff = t.ff := fun t x => ⟨rfl, rfl⟩
  have hen : ∀ (t : CoS) y (x : σ), (coEnd t y x).2.2.1.cf = t.cf ∧ (coEnd t y x).2.2.1.ff = t.ff := fun t y x => ⟨rfl, rfl⟩
  have hgo : ∀ (t : CoS) pc w a b cs, (coGo ld t pc w a b cs m).2.2.1.cf = t.cf ∧ (coGo ld t pc w a b cs m).2.2.1.ff = t.ff := fun t pc w a b cs => by
    unfold coGo
    split
    · split
      · exact hsk _ _
      · exact hen _ _ _
    · exact hen _ _ _
  unfold coCycle
  split
  · exact ⟨Nat.le_add_right _ _, Nat.le_add_right _ _⟩
  split
  · have := hsk s.scr m; omega
  split
  · have h2 := hsn s.scr
    unfold coFetch
    split
    · have := hsk s.scr.seenS m; omega
    split
    · have := hen s.scr.seenS (trapP s.scr.pc s.scr.csrs (fetchP s.scr.pc).1 s.scr.pc) m; omega
    · unfold coLoad
      split
      · have := hsk s.scr.seenS (ld m s.scr.pc).2; omega
      · exact ⟨by show s.scr.seenS.cf ≤ _; omega, by show s.scr.seenS.ff ≤ _; omega⟩
  split
  · exact ⟨by show s.scr.cf ≤ _; omega, by show s.scr.ff ≤ _; omega⟩
  · have h2 := hsn s.scr
    unfold coDo
    split
    · have := hsk s.scr.seenS m; omega
    · unfold coArgs
      dsimp only
      generalize decodeP (pget (nth s.scr.ll 2)) = i
      have r1 := hrd s.scr.seenS (readsP i).1 i.r1
      have r2 := hrd (s.scr.seenS.rd (readsP i).1 i.r1) (readsP i).2 i.r2
      split
      · have := hsk ((s.scr.seenS.rd (readsP i).1 i.r1).rd (readsP i).2 i.r2) m; omega
      · have := hgo ((s.scr.seenS.rd (readsP i).1 i.r1).rd (readsP i).2 i.r2) s.scr.pc (pget (nth s.scr.ll 2)) (s.scr.seenS.rdN (readsP i).1 i.r1).1 ((s.scr.seenS.rd (readsP i).1 i.r1).rdN (readsP i).2 i.r2).1 s.scr.csrs; omega
end Go.Proofs.YtmdjhahafjlebaaGreatDoor
