/- Law 18: next. -/
import Derived.Test.YtmdjhahafjlebaaGreatDoorQD47
import Derived.Test.YtmdjhahafjlebaaGreatDoorQD29
import Derived.Test.YtmdjhahafjlebaaGreatDoorQD13
namespace Go.Proofs.YtmdjhahafjlebaaGreatDoor
open Go.RowKit Go.Dio
set_option linter.unusedSimpArgs false
set_option linter.unusedVariables false

set_option maxRecDepth 20000 in
set_option maxHeartbeats 8000000 in
theorem next_c (mb : Nat) (k : CoB) (base : Nat) (hk : mb ∉ k.fp) (hbb : mb < base) (s : CoS) (m : List Nat) (zz : World) (h : CoreAt k s zz) (hb : (memoBus mb k base hk hbb).ok m zz) (hbase : base ≤ zz.heap.size) (hf : s.cf < 9223372036854775000) (hff : s.ff < 9223372036854775000) :
    Calls Tryz.prog 22 #[.pointer (some ⟨k.cb, 0, none⟩), memoV mb] zz fun e z' => e = .returned (.tuple #[.agg (nextP memoLd 56 s m).1.cells.toArray, .bool (nextP memoLd 56 s m).2.1]) ∧ CoR2 (memoBus mb k base hk hbb) (nextP memoLd 56 s m).2.2.1 (nextP memoLd 56 s m).2.2.2 zz z' := by
  have HT := Lib.hid h.tz.lt
  have HZ := Lib.hid h.lt
  have H0 := Lib.hid (Nx.refl h hb hbase)
  have CY := Lib.hid (fun s' m' w (n : Nx (memoBus mb k base hk hbb) s' m' zz w) (h1 : s'.cf < 9223372036854775700) (h2 : s'.ff < 9223372036854775700) => cycle_c (memoBus mb k base hk hbb) s' m' w n.core n.bus n.sz h1 h2)
  have LDE : (memoBus mb k base hk hbb).ld = memoLd := rfl
  rw [LDE] at CY
  generalize hB : memoBus mb k base hk hbb = B at *
  clear h hb hB LDE
  show Calls _ _ #[_, .agg #[.slice (some ⟨mb, 0, none⟩) 1024 1024]] _ _
  have CY2 : Hid (∀ s' m' w, Nx B s' m' zz w → s'.cf < 9223372036854775700 → s'.ff < 9223372036854775700 → Calls Tryz.prog 15 #[.pointer (some ⟨k.cb, 0, none⟩), .iface 33 (.agg #[.slice (some ⟨mb, 0, none⟩) 1024 1024])] w fun e z' => e = .returned (.tuple #[.agg (coCycle memoLd s' m').1.cells.toArray, .int .i64 ((coCycle memoLd s' m').2.1 : Int)]) ∧ CoR2 B (coCycle memoLd s' m').2.2.1 (coCycle memoLd s' m').2.2.2 w z') := Lib.hid CY.out
  clear CY
  obtain ⟨F, hF⟩ : ∃ F, F = nextP memoLd 56 s m := ⟨_, rfl⟩
  rw [← hF]
  have HF := Lib.hid hF
  clear hF
  go_enter Tryz.func22, Tryz.ntmps22
  go_upto_region 1 with (fail)
  generalize hW : World.alloc (World.alloc zz _) _ = z0
  have B3 : Hid (z0.heap[zz.heap.size]? = some (.cells #[.slice (some ⟨mb, 0, none⟩) 1024 1024] 33 (0, 0))) := Lib.hid (by rw [← hW]; exact heap_old (Go.heap_alloc_last zz _) _)
  have R4 : Hid (z0.heap[zz.heap.size + 1]? = some (.cells zR.cells.toArray 38 (0, 0))) := Lib.hid (by rw [← hW]; exact heap2 zz _ _)
  have U0 : Hid (Upd [] zz z0) := Lib.hid (by rw [← hW]; exact ((Upd.refl _ _).alloc _).alloc _)
  clear hW
  have N0 : Hid (∃ s' m', Nx B s' m' zz z0 ∧ nextP memoLd (56 - 0) s' m' = F ∧ s'.cf ≤ s.cf + 7 * 0 ∧ s'.ff ≤ s.ff + 7 * 0) := Lib.hid ⟨s, m, H0.out.near U0.out, HF.out.symm, Nat.le_refl _, Nat.le_refl _⟩
  clear H0 U0
  go_wp2_with (fail)
  go_loopw [6] (fun v6 wl => ∃ i : Nat, v6 = .int .i64 (i : Int) ∧ i ≤ 56 ∧ Hid (∃ s' m', Nx B s' m' zz wl ∧ nextP memoLd (56 - i) s' m' = F ∧ s'.cf ≤ s.cf + 7 * i ∧ s'.ff ≤ s.ff + 7 * i) ∧ Hid (wl.heap[zz.heap.size]? = some (.cells #[.slice (some ⟨mb, 0, none⟩) 1024 1024] 33 (0, 0))) ∧ Hid (wl.heap[zz.heap.size + 1]? = some (.cells zR.cells.toArray 38 (0, 0)))) (fun v6 _ => 56 - (intOf v6).toNat)
  case atStart => exact ⟨0, rfl, by omega, N0, B3, R4⟩
  case round =>
    obtain ⟨i, rfl, hi, HX, B3', R4'⟩ := hrel
    clear N0 B3 R4 HF
    obtain ⟨s', m', n1, hF, hc1, hc2⟩ := HX.out
    have N1 := Lib.hid n1
    have HF := Lib.hid hF
    clear HX n1 hF
    rcases Nat.lt_or_ge i 56 with hlt | hge
    · have dl : decide ((i : Int) < 56) = true := decide_eq_true (by omega)
      have C := Lib.hid (CY2.out s' m' wr N1.out (by omega) (by omega))
      have hcy := cyc_f memoLd s' m'
      have HQ : Hid (nextP memoLd (56 - i) s' m' = if (coCycle memoLd s' m').2.1 = 1 then ((coCycle memoLd s' m').1, true, (coCycle memoLd s' m').2.2.1, (coCycle memoLd s' m').2.2.2)
        else if (coCycle memoLd s' m').2.1 ≠ 0 ∨ (coCycle memoLd s' m').1 ≠ zR then (zR, false, (coCycle memoLd s' m').2.2.1, (coCycle memoLd s' m').2.2.2)
        else nextP memoLd (56 - (i + 1)) (coCycle memoLd s' m').2.2.1 (coCycle memoLd s' m').2.2.2) := Lib.hid (by
          rw [show 56 - i = (56 - (i + 1)) + 1 by omega, nextP])
      generalize coCycle memoLd s' m' = X at *
      obtain ⟨r, wh, s2, m2⟩ := X
      dsimp only at C hcy HQ
      go_wp2_with (first
        | go_skip
        | ((with_reducible refine at_op 15 ?_); refine L_load 33 (.tmp 3) rfl (by kernel_rfl) _ _ rfl #[.slice (some ⟨mb, 0, none⟩) 1024 1024] (row_arr B3'.out) Tryz.underlying33 rfl 1 info_memo rfl ?_))
      refine C.out.mono ?_
      rintro e w2 ⟨rfl, r2⟩
      have hu := r2.upd
      have N2 := Lib.hid (N1.out.cyc r2)
      have fpz : zz.heap.size ∉ k.fp ++ B.fp := fun hm => by
        rcases List.mem_append.1 hm with h1 | h1
        · have := HZ.out _ h1; omega
        · have := (B.apart _ h1).2.1; omega
      have fpz1 : zz.heap.size + 1 ∉ k.fp ++ B.fp := fun hm => by
        rcases List.mem_append.1 hm with h1 | h1
        · have := HZ.out _ h1; omega
        · have := (B.apart _ h1).2.1; omega
      have B32 := Lib.hid (hu.keep B3'.out fpz)
      have R42 := Lib.hid (hu.keep R4'.out fpz1)
      have UA := (Upd.refl [] w2).alloc (.cells r.cells.toArray 38)
      have RB := Lib.hid (Go.heap_alloc_last w2 (.cells r.cells.toArray 38))
      have B33 := Lib.hid (UA.keep B32.out (by simp))
      have R43 := Lib.hid (UA.keep R42.out (by simp))
      have N3 := Lib.hid (N2.out.near UA)
      clear r2 hu UA fpz fpz1 B3' R4' N2 B32 R42 C
      generalize hWA : w2.alloc (.cells r.cells.toArray 38) = WA at *
      have HWA := Lib.hid hWA
      clear hWA
      by_cases h1 : wh = 1
      · subst h1
        have HO := Lib.hid (HF.out.symm.trans (HQ.out.trans (if_pos rfl)))
        go_wp2_with (first
          | go_skip
          | ((with_reducible refine at_st 7 ?_); refine L_store_new 38 (.tmp 7) (.tmp 18) rfl (by kernel_rfl) _ r.cells.toArray rfl rfl 7 info_ret rfl rfl (RetV.one _) ?_; rw [HWA.out])
          | ((with_reducible refine at_op 22 ?_); refine L_load 38 (.tmp 7) rfl (by kernel_rfl) _ _ rfl r.cells.toArray (row_arr RB.out) Tryz.underlying38 rfl 7 info_ret rfl ?_)
          | ((with_reducible refine at_st 4 ?_); refine L_store_row 38 (.tmp 4) (.tmp 22) rfl (by kernel_rfl) (zz.heap.size + 1) 0 rfl zR.cells 38 R43.out r.cells.toArray rfl 7 info_ret rfl (by decide) (RetV.one _) ?_))
        intro wA bA uA zA
        rw [spl_all (by rfl)] at bA
        have NF := N3.out.fr uA (by omega) HT.out
        go_wp2_with (fail)
        refine bodyPost_ret (results_row_tmp rfl _ _ (zz.heap.size + 1) 38 r.cells.toArray _ _ _ rfl rfl bA Tryz.underlying38 rfl info_ret) rfl ⟨by rw [HO.out]; rfl, ?_⟩
        rw [HO.out]
        exact ⟨NF.core, NF.bus, NF.upd⟩
      · have d1 : ((wh : Int) == 1) = false := by rw [beq_eq_false_iff_ne]; omega
        have HQ1 := Lib.hid (HQ.out.trans (if_neg h1))
        have q0 : ∀ w, (Op.equalIn 10000 38 (.agg r.cells.toArray) (.agg #[.int .u32 0, .int .u32 0, .int .i64 0, .bool false, .int .u32 0, .int .u32 0, .int .i64 0])).run Tryz.prog w = .ok (decide (r = zR)) w := fun w => ret_eq r zR w
        by_cases h2 : wh ≠ 0 ∨ r ≠ zR
        · have HO := Lib.hid (HF.out.symm.trans (HQ1.out.trans (if_pos h2)))
          by_cases h0 : wh = 0
          · have hr : r ≠ zR := h2.resolve_left (fun h => h h0)
            subst h0
            rw [decide_eq_false hr] at q0
            go_wp2_with (first
              | go_skip
              | ((with_reducible refine at_st 7 ?_); refine L_store_new 38 (.tmp 7) (.tmp 18) rfl (by kernel_rfl) _ r.cells.toArray rfl rfl 7 info_ret rfl rfl (RetV.one _) ?_; rw [HWA.out])
              | ((with_reducible refine at_op 26 ?_); refine L_load 38 (.tmp 7) rfl (by kernel_rfl) _ _ rfl r.cells.toArray (row_arr RB.out) Tryz.underlying38 rfl 7 info_ret rfl ?_)
              | ((with_reducible refine at_st 4 ?_); refine L_store_row 38 (.tmp 4) (.tmp 30) rfl (by kernel_rfl) (zz.heap.size + 1) 0 rfl zR.cells 38 R43.out zR.cells.toArray rfl 7 info_ret rfl (by decide) (RetV.one _) ?_))
            intro wA bA uA zA
            rw [spl_all (by rfl)] at bA
            have NF := N3.out.fr uA (by omega) HT.out
            go_wp2_with (fail)
            refine bodyPost_ret (results_row_tmp rfl _ _ (zz.heap.size + 1) 38 zR.cells.toArray _ _ _ rfl rfl bA Tryz.underlying38 rfl info_ret) rfl ⟨by rw [HO.out]; rfl, ?_⟩
            rw [HO.out]
            exact ⟨NF.core, NF.bus, NF.upd⟩
          · have d0 : ((wh : Int) != 0) = true := by simp; omega
            have d0' : ((wh : Int) == 0) = false := by rw [beq_eq_false_iff_ne]; omega
            go_wp2_with (first
              | go_skip
              | ((with_reducible refine at_st 7 ?_); refine L_store_new 38 (.tmp 7) (.tmp 18) rfl (by kernel_rfl) _ r.cells.toArray rfl rfl 7 info_ret rfl rfl (RetV.one _) ?_; rw [HWA.out])
              | ((with_reducible refine at_st 4 ?_); refine L_store_row 38 (.tmp 4) (.tmp 30) rfl (by kernel_rfl) (zz.heap.size + 1) 0 rfl zR.cells 38 R43.out zR.cells.toArray rfl 7 info_ret rfl (by decide) (RetV.one _) ?_))
            intro wA bA uA zA
            rw [spl_all (by rfl)] at bA
            have NF := N3.out.fr uA (by omega) HT.out
            go_wp2_with (fail)
            refine bodyPost_ret (results_row_tmp rfl _ _ (zz.heap.size + 1) 38 zR.cells.toArray _ _ _ rfl rfl bA Tryz.underlying38 rfl info_ret) rfl ⟨by rw [HO.out]; rfl, ?_⟩
            rw [HO.out]
            exact ⟨NF.core, NF.bus, NF.upd⟩
        · obtain ⟨rfl, rfl⟩ : wh = 0 ∧ r = zR := ⟨Classical.byContradiction fun h => h2 (.inl h), Classical.byContradiction fun h => h2 (.inr h)⟩
          have HO := Lib.hid (HQ1.out.trans (if_neg h2))
          rw [decide_eq_true rfl] at q0
          go_wp2_with (first
            | go_skip
            | ((with_reducible refine at_st 7 ?_); refine L_store_new 38 (.tmp 7) (.tmp 18) rfl (by kernel_rfl) _ zR.cells.toArray rfl rfl 7 info_ret rfl rfl (RetV.one _) ?_; rw [HWA.out])
            | ((with_reducible refine at_op 26 ?_); refine L_load 38 (.tmp 7) rfl (by kernel_rfl) _ _ rfl zR.cells.toArray (row_arr RB.out) Tryz.underlying38 rfl 7 info_ret rfl ?_))
          go_roundw
          case measure => simp [intOf]; omega
          case rel => exact ⟨i + 1, by go_num, by omega, Lib.hid ⟨s2, m2, N3.out, HO.out.symm.trans HF.out, by omega, by omega⟩, B33, R43⟩
    · obtain rfl : i = 56 := by omega
      have HO : Hid (F = (zR, false, s', m')) := Lib.hid HF.out.symm
      go_wp2_with (first
        | go_skip
        | ((with_reducible refine at_st 4 ?_); refine L_store_row 38 (.tmp 4) (.tmp 31) rfl (by kernel_rfl) (zz.heap.size + 1) 0 rfl zR.cells 38 R4'.out zR.cells.toArray rfl 7 info_ret rfl (by decide) (RetV.one _) ?_))
      intro wA bA uA zA
      rw [spl_all (by rfl)] at bA
      have NF := N1.out.fr uA (by omega) HT.out
      go_wp2_with (fail)
      refine bodyPost_ret (results_row_tmp rfl _ _ (zz.heap.size + 1) 38 zR.cells.toArray _ _ _ rfl rfl bA Tryz.underlying38 rfl info_ret) rfl ⟨by rw [HO.out]; rfl, ?_⟩
      rw [HO.out]
      exact ⟨NF.core, NF.bus, NF.upd⟩
end Go.Proofs.YtmdjhahafjlebaaGreatDoor

namespace Go.Proofs.YtmdjhahafjlebaaGreatDoor
open Go.RowKit Go.Dio
set_option linter.unusedSimpArgs false
set_option linter.unusedVariables false set_option linter.unusedSectionVars false

structure CO (zz : World) (k : CoB) (s : CoS) (w : World) : Prop where
  core : CoreAt k s w
  upd : Upd [] zz w
  own : ∀ x ∈ k.fp, zz.heap.size ≤ x
structure MO (zz : World) (k : CoB) (mb : Nat) (m : List Nat) (w : World) : Prop where
  mem : w.heap[mb]? = some (.cells (nums .u32 m) 36 (0, 0))
  ok : MemOk m
  hk : mb ∉ k.fp
  own : zz.heap.size ≤ mb
section
variable {zz w w' : World} {k : CoB} {s s' : CoS} {mb : Nat} {m m' : List Nat}
theorem CO.near (h : CO zz k s w) (u : Upd [] w w') : CO zz k s w' := ⟨h.core.upd0 u, h.upd.trans u, h.own⟩
theorem CO.cor (h : CO zz k s w) (r : CoR k s' w w') : CO zz k s' w' := ⟨r.core, h.upd.then r.upd (fun x hx hlt => by have := h.own x hx; omega), h.own⟩
theorem MO.near (h : MO zz k mb m w) (u : Upd [] w w') : MO zz k mb m w' := ⟨u.keep h.mem (by simp), h.ok, h.hk, h.own⟩
theorem MO.cor (h : MO zz k mb m w) (r : CoR k s' w w') : MO zz k mb m w' := ⟨r.upd.keep h.mem h.hk, h.ok, h.hk, h.own⟩
theorem CO.cycle (h : CO zz k s w) (g : MO zz k mb m w) (hf : s.cf < 9223372036854775700) (hff : s.ff < 9223372036854775700) :
    Calls Tryz.prog 15 #[.pointer (some ⟨k.cb, 0, none⟩), .iface 33 (.agg #[.slice (some ⟨mb, 0, none⟩) 1024 1024])] w fun e z' => e = .returned (.tuple #[.agg (coCycle memoLd s m).1.cells.toArray, .int .i64 ((coCycle memoLd s m).2.1 : Int)]) ∧ CO zz k (coCycle memoLd s m).2.2.1 z' ∧ MO zz k mb (coCycle memoLd s m).2.2.2 z' ∧ Upd k.fp w z' := by
  have hlt := lt_of_block g.mem
  refine (cycle_c (memoBus mb k w.heap.size g.hk hlt) s m w h.core ⟨g.mem, g.ok⟩ (Nat.le_refl _) hf hff).mono ?_
  rintro e z' ⟨rfl, r⟩
  have u : Upd k.fp w z' := r.upd.mono (fun x hx _ => by simpa [memoBus] using hx)
  exact ⟨rfl, h.cor ⟨r.core, u⟩, ⟨r.bus.1, r.bus.2, g.hk, g.own⟩, u⟩
theorem CO.next (h : CO zz k s w) (g : MO zz k mb m w) (hf : s.cf < 9223372036854775000) (hff : s.ff < 9223372036854775000) :
    Calls Tryz.prog 22 #[.pointer (some ⟨k.cb, 0, none⟩), .agg #[.slice (some ⟨mb, 0, none⟩) 1024 1024]] w fun e z' => e = .returned (.tuple #[.agg (nextP memoLd 56 s m).1.cells.toArray, .bool (nextP memoLd 56 s m).2.1]) ∧ CO zz k (nextP memoLd 56 s m).2.2.1 z' ∧ MO zz k mb (nextP memoLd 56 s m).2.2.2 z' ∧ Upd k.fp w z' := by
  have hlt := lt_of_block g.mem
  refine (next_c mb k w.heap.size g.hk hlt s m w h.core ⟨g.mem, g.ok⟩ (Nat.le_refl _) hf hff).mono ?_
  rintro e z' ⟨rfl, r⟩
  have u : Upd k.fp w z' := r.upd.mono (fun x hx _ => by simpa [memoBus] using hx)
  exact ⟨rfl, h.cor ⟨r.core, u⟩, ⟨r.bus.1, r.bus.2, g.hk, g.own⟩, u⟩
end
theorem enc_rep (n : Nat) : (List.replicate n 0).map enc = List.replicate n 0 := by rw [List.map_replicate, enc_zero]
theorem newC_gold : newC = gold 0 (List.replicate 32 0) (List.replicate 5 0) z4 0 0 0 0 := by
  unfold newC gold
  rw [show (List.replicate 32 0 : List Nat).tail = List.replicate 31 0 from rfl, show (0 :: List.replicate 5 0 : List Nat) = List.replicate 6 0 from rfl, enc_rep, enc_rep]
  rfl
theorem Gd.new : Gd 0 (List.replicate 32 0) (List.replicate 5 0) := ⟨by decide, rfl, rfl, by decide, rfl, by decide⟩
theorem newS_mem {ns : List Nat} (hl : ns.length ≤ 1024) (hs : ∀ x ∈ ns, x < 2 ^ 32) : MemOk (newS ns).mem := ⟨(newS_ok hl hs).mem, (newS_ok hl hs).mlt⟩
theorem CO.new (zz w : World) (h : Upd [] zz w) (hT : Tz w) :
    Calls Tryz.prog 11 #[] w fun e z' => ∃ k : CoB, e = .returned (.pointer (some ⟨k.cb, 0, none⟩)) ∧ CO zz k (gold 0 (List.replicate 32 0) (List.replicate 5 0) z4 0 0 0 0) z' ∧ Upd [] w z' ∧ ∀ x ∈ k.fp, w.heap.size ≤ x := by
  refine (CNew_calls w hT).mono ?_
  rintro e z' ⟨k, rfl, hc, u, ho⟩
  rw [newC_gold] at hc
  exact ⟨k, rfl, ⟨hc, h.trans u, fun x hx => Nat.le_trans h.size (ho x hx)⟩, u, ho⟩
/-- The memory of an image. -/
theorem MO.new {zz w : World} {k : CoB} {s : CoS} (h : CO zz k s w) (A : Option Addr) (ns : List Nat) (N c : Nat) (hN : N = ns.length) (hA : NumsAt w .u32 A ns) (hl : N ≤ 1024) (hs : ∀ x ∈ ns, x < 2 ^ 32) :
    Calls Tryz.prog 13 #[.slice A N c] w fun e z' => ∃ mb, e = .returned (.agg #[.slice (some ⟨mb, 0, none⟩) 1024 1024]) ∧ CO zz k s z' ∧ MO zz k mb (newS ns).mem z' ∧ Upd [] w z' := by
  refine (memory_calls A ns N c w hN hA hl).mono ?_
  rintro e z' ⟨mb, rfl, hm, u, ho⟩
  exact ⟨mb, rfl, h.near u, ⟨hm, newS_mem (by omega) hs, fun hx => by have := h.core.lt _ hx; omega, Nat.le_trans h.upd.size ho⟩, u⟩
/-- Two steps of a program that sets a register. -/
def kn1 : MadeV := madeQ 0 (List.replicate 32 0) (List.replicate 5 0) (newS (setL 5 77)).mem
def knR : List Nat := if kn1.r.rd = 0 then List.replicate 32 0 else (List.replicate 32 0).set kn1.r.rd.toNat kn1.r.val.toNat
def kn2 : MadeV := madeQ kn1.next knR kn1.csrs (newS (setL 5 77)).mem
def knQ : List Nat := if kn2.r.rd = 0 then knR else knR.set kn2.r.rd.toNat kn2.r.val.toNat
theorem kn_facts : kn1.r.pc = 0 ∧ kn1.r.rd = 5 ∧ kn2.r.val = 77 ∧ kn2.next = 8 ∧ nth knQ 5 = 77 := by decide +kernel
theorem knset_lt : ∀ x ∈ setL 5 77, x < 2 ^ 32 := by decide +kernel
theorem kn_len : (setL 5 77).length = 2 := by decide +kernel
end Go.Proofs.YtmdjhahafjlebaaGreatDoor

namespace Go.Proofs.YtmdjhahafjlebaaGreatDoor
open Go.RowKit Go.Dio
set_option linter.unusedSimpArgs false
set_option linter.unusedVariables false

theorem numsOf {base : Nat} {w : World} {A : Option Addr} {n c : Nat} {l : List Nat} (h : Ow base w (.slice A n c) l) : NumsAt w .u32 A l := by
  obtain ⟨A', c', e, _, _, hN, _⟩ := Ow.words h
  injection e with e1 _ _
  subst e1
  exact hN
theorem CO.state {zz w : World} {k : CoB} {p : Nat} {R C ll : List Nat} {ff fa cf ca : Nat} (h : CO zz k (gold p R C ll ff fa cf ca) w) (g : Gd p R C) :
    Calls Tryz.prog 16 #[.pointer (some ⟨k.cb, 0, none⟩)] w fun e z' => e = .returned (.tuple #[.int .u32 (p : Int), .agg (nums .u32 R), .agg (nums .u32 C), .bool true]) ∧ Upd [] w z' := by
  have h1 := state_c k _ w h.core
  obtain ⟨s1, s2, s3, s4⟩ := gold_state g ll ff fa cf ca
  rw [s1, s2, s3, s4] at h1
  exact h1
theorem CO.nextG {zz w : World} {k : CoB} {mb : Nat} {m : List Nat} {p : Nat} {R C : List Nat} {ff fa cf ca : Nat} (h : CO zz k (gold p R C z4 ff fa cf ca) w) (g : Gd p R C) (mo : MO zz k mb m w) (ha : fa < 31) (hc : ca < 6) (hf : cf < 9223372036854775000) (hff : ff < 9223372036854775000) :
    Calls Tryz.prog 22 #[.pointer (some ⟨k.cb, 0, none⟩), .agg #[.slice (some ⟨mb, 0, none⟩) 1024 1024]] w fun e z' => ∃ fa' ca', fa' < 31 ∧ ca' < 6 ∧ e = .returned (.tuple #[.agg (madeQ p R C m).r.cells.toArray, .bool true]) ∧ CO zz k (gold (madeQ p R C m).next (if (madeQ p R C m).r.rd = 0 then R else R.set (madeQ p R C m).r.rd.toNat (madeQ p R C m).r.val.toNat) (madeQ p R C m).csrs z4 ff fa' cf ca') z' ∧ MO zz k mb m z' ∧ Upd k.fp w z' := by
  obtain ⟨fa', ca', h1, h2, hq⟩ := next_q g mo.ok ff fa cf ca ha hc
  have hn := h.next mo hf hff
  rw [hq] at hn
  refine hn.mono ?_
  rintro e z' ⟨rfl, c, m', u⟩
  dsimp only at c m'
  rw [gold_fin g z4 ff fa' cf ca' _ (madeQ_w g mo.ok)] at c
  exact ⟨fa', ca', h1, h2, rfl, c, m', u⟩
theorem flip_no {zz w : World} {k : CoB} {s : CoS} (h : CO zz k s w) (c : Int) (hc : c < 0) (h1 : -9223372036854775808 ≤ c) (h2 : c ≤ 9223372036854775807) :
    Calls Tryz.prog 18 #[.pointer (some ⟨k.cb, 0, none⟩), .int .i64 c] w fun e z' => e = .returned (.bool false) ∧ CO zz k s z' := by
  have hf := CFlip_calls k s c w h.core h2 h1
  rw [show CoS.flipOk c = false from decide_eq_false (by omega), show s.flip c = s from if_pos hc] at hf
  exact hf.mono fun e z' ⟨h1, h2⟩ => ⟨h1, h.cor h2⟩
theorem flip_no2 {zz w : World} {k : CoB} {s : CoS} (h : CO zz k s w) :
    Calls Tryz.prog 18 #[.pointer (some ⟨k.cb, 0, none⟩), .int .i64 1575] w fun e z' => e = .returned (.bool false) ∧ CO zz k s z' := by
  have hf := CFlip_calls k s 1575 w h.core (by decide) (by decide)
  have e : s.flip 1575 = s := by
    unfold CoS.flip
    rw [if_neg (by decide), if_neg (by decide), if_neg (by decide)]
    have : flatL s.ll (1575 - 1443) = s.ll := by unfold flatL; rw [if_neg]; unfold flatB; rw [h.core.ok.ll]; decide
    rw [this]
  rw [show CoS.flipOk 1575 = false from by decide, e] at hf
  exact hf.mono fun e z' ⟨h1, h2⟩ => ⟨h1, h.cor h2⟩
theorem run_eqR (xs ys : List Nat) (hx : xs.length = 32) (hy : ys.length = 32) (w : World) : (binOp .eql 41 (.agg (nums .u32 xs)) (.agg (nums .u32 ys))).run Tryz.prog w = .ok (.bool (decide (xs = ys))) w :=
  run_eql_nums 41 36 32 .u32 Tryz.underlying41 Tryz.underlying36 (fun w => by go_simp) xs ys hx hy w
theorem run_eqC (xs ys : List Nat) (hx : xs.length = 5) (hy : ys.length = 5) (w : World) : (binOp .eql 42 (.agg (nums .u32 xs)) (.agg (nums .u32 ys))).run Tryz.prog w = .ok (.bool (decide (xs = ys))) w :=
  run_eql_nums 42 36 5 .u32 Tryz.underlying42 Tryz.underlying36 (fun w => by go_simp) xs ys hx hy w
set_option maxRecDepth 20000 in
set_option maxHeartbeats 8000000 in
theorem known18 (zz : World) (hT : Tz zz) :
    Calls Tryz.prog 10 #[] zz fun e z' => e = .returned (.bool true) ∧ Upd [] zz z' := by
  have nw := CO.new zz zz (Upd.refl _ _) hT
  have g0 := Gd.new
  have MF := Lib.hid (show kn1 = madeQ 0 (List.replicate 32 0) (List.replicate 5 0) (newS (setL 5 77)).mem from rfl)
  have KR := Lib.hid (show knR = if kn1.r.rd = 0 then List.replicate 32 0 else (List.replicate 32 0).set kn1.r.rd.toNat kn1.r.val.toNat from rfl)
  have hR0 : Hid (List.replicate 32 0 = List.replicate 32 0) := Lib.hid rfl
  obtain ⟨R0, hR⟩ : ∃ R0, R0 = List.replicate 32 0 := ⟨_, rfl⟩
  obtain ⟨C0, hC⟩ : ∃ C0, C0 = List.replicate 5 0 := ⟨_, rfl⟩
  rw [← hR, ← hC] at nw g0 MF
  rw [← hR] at KR
  have LR : R0.length = 32 := by rw [hR]; rfl
  have LC : C0.length = 5 := by rw [hC]; rfl
  have HR := Lib.hid hR
  have HC := Lib.hid hC
  have NW := Lib.hid nw
  have G0 := Lib.hid g0
  clear hT hR hC nw g0 hR0
  go_enter Tryz.func10, Tryz.ntmps10
  go_wp2_with (fail)
  refine NW.out.mono ?_
  rintro e w1 ⟨k, rfl, c1, u1, ho1⟩
  have C1 := Lib.hid c1
  have ST := Lib.hid (C1.out.state G0.out)
  clear c1 u1 ho1 NW
  go_wp2_with (fail)
  refine ST.out.mono ?_
  rintro e w2 ⟨rfl, u2⟩
  have C2 := Lib.hid (C1.out.near u2)
  have HKZ := Lib.hid C2.out.core.lt
  clear u2 C1 ST
  go_wp2_with (first
    | go_skip
    | ((with_reducible refine at_st 3 ?_); refine L_store_row 41 (.tmp 3) (.tmp 22) rfl (by kernel_rfl) (w2).heap.size 0 rfl (nums .u32 (List.replicate 32 0)).toList 41 (heap_old (Go.heap_alloc_last w2 _) _) (nums .u32 R0) rfl 32 info_r32 (by rw [nums_size]; exact LR) (Nat.le_refl _) (nums_one _ _) ?_))
  intro wA b2 u2 z2
  rw [spl_all (by first | rfl | (simp only [Array.length_toList, nums_size, List.length_replicate]; exact LR))] at b2
  have A1 := Lib.hid b2
  have A2 : Hid (wA.heap[(w2).heap.size + 1]? = some (.cells (nums .u32 (List.replicate 5 0)).toList.toArray 42 (0, 0))) := Lib.hid (u2.keep (heap2 w2 _ _) (by simp))
  have V2 := Lib.hid ((((Upd.refl [] w2).alloc _).alloc _).then u2 (fun x hx hlt => by simp at hx; omega))
  clear b2 u2 z2
  go_wp2_with (first
    | go_skip
    | ((with_reducible refine at_st 4 ?_); refine L_store_row 42 (.tmp 4) (.tmp 23) rfl (by kernel_rfl) ((w2).heap.size + 1) 0 rfl (nums .u32 (List.replicate 5 0)).toList 42 A2.out (nums .u32 C0) rfl 5 info_rc5 (by rw [nums_size]; exact LC) (Nat.le_refl _) (nums_one _ _) ?_))
  intro w3 b3 u3 z3
  rw [spl_all (by first | rfl | (simp only [Array.length_toList, nums_size, List.length_replicate]; exact LC))] at b3
  have S4 : Hid ((w3).heap[(w2).heap.size + 1]? = some (.cells (nums .u32 C0) 42 (0, 0))) := Lib.hid (by simpa using b3)
  have S3 : Hid ((w3).heap[(w2).heap.size]? = some (.cells (nums .u32 R0) 41 (0, 0))) := Lib.hid (by simpa using u3.keep A1.out (by simp))
  have V3 := Lib.hid (V2.out.then u3 (fun x hx hlt => by simp at hx; omega))
  clear b3 u3 z3 A1 A2 V2
  have C3 := Lib.hid (C2.out.near V3.out)
  have hw2 := C3.out.upd.size
  go_wp2_with (fail)
  refine (Set_calls 5 77 _ (by decide) (by decide)).mono ?_
  rintro e w4 ⟨A4, c4, rfl, O4, u4⟩
  have C4 := Lib.hid (C3.out.near u4)
  have S44 := Lib.hid (u4.keep S4.out (by simp))
  have S34 := Lib.hid (u4.keep S3.out (by simp))
  have ME := Lib.hid (MO.new C4.out A4 (setL 5 77) 2 c4 kn_len.symm (numsOf O4) (by decide) knset_lt)
  clear O4 u4 S4 S3 V3 C2 C3
  go_wp2_with (fail)
  refine ME.out.mono ?_
  rintro e w5 ⟨mb, rfl, c5, m5, u5⟩
  have UA := (Upd.refl [] w5).alloc (.cells #[.slice (some ⟨mb, 0, none⟩) 1024 1024] 33)
  have MB := Lib.hid (Go.heap_alloc_last w5 (.cells #[.slice (some ⟨mb, 0, none⟩) 1024 1024] 33))
  have C6 := Lib.hid (c5.near UA)
  have M6 := Lib.hid (m5.near UA)
  have S45 := Lib.hid (UA.keep (u5.keep S44.out (by simp)) (by simp))
  have S35 := Lib.hid (UA.keep (u5.keep S34.out (by simp)) (by simp))
  have hz5 : w2.heap.size + 1 < w5.heap.size := Nat.lt_of_lt_of_le (lt_of_block S44.out) u5.size
  clear UA u5 c5 m5 S44 S34 ME C4
  generalize hW6 : w5.alloc (.cells #[.slice (some ⟨mb, 0, none⟩) 1024 1024] 33) = w6 at *
  have HW6 := Lib.hid hW6
  clear hW6
  have NA := Lib.hid (C6.out.nextG G0.out M6.out (by decide) (by decide) (by decide) (by decide))
  have GA := Lib.hid (gold_next G0.out _ (madeQ_w G0.out M6.out.ok))
  have K2' := Lib.hid (show kn2 = madeQ kn1.next knR kn1.csrs (newS (setL 5 77)).mem from rfl)
  have KQ := Lib.hid (show knQ = if kn2.r.rd = 0 then knR else knR.set kn2.r.rd.toNat kn2.r.val.toNat from rfl)
  rw [← MF.out, ← KR.out] at NA GA
  have GB := Lib.hid (gold_next GA.out _ (madeQ_w GA.out M6.out.ok))
  rw [← K2'.out, ← KQ.out] at GB
  obtain ⟨f1, f2, f3, f4, f5⟩ := kn_facts
  have HKF := Lib.hid (And.intro f1 (And.intro f2 (And.intro f3 (And.intro f4 f5))))
  clear f1 f2 f3 f4 f5
  generalize (newS (setL 5 77)).mem = m at *
  generalize kn1 = x1 at *
  generalize knR = R1 at *
  generalize kn2 = x2 at *
  generalize knQ = R2 at *
  go_wp2_with (first
    | go_skip
    | ((with_reducible refine at_op 29 ?_); rw [HW6.out]; refine L_load 33 (.tmp 6) rfl (by kernel_rfl) _ _ rfl #[.slice (some ⟨mb, 0, none⟩) 1024 1024] (row_arr MB.out) Tryz.underlying33 rfl 1 info_memo rfl ?_))
  refine NA.out.mono ?_
  rintro e w7 ⟨fa1, ca1, ha1, hc1, rfl, c7, m7, u7⟩
  have KP := Lib.hid c7.own
  have C7 := Lib.hid c7
  have hkz : ∀ x ∈ k.fp, x < w2.heap.size := fun x hx => HKZ.out x hx
  have S47 := Lib.hid (u7.keep S45.out (fun hm => by have := hkz _ hm; omega))
  have S37 := Lib.hid (u7.keep S35.out (fun hm => by have := hkz _ hm; omega))
  have MB7 := Lib.hid (u7.keep MB.out (fun hm => by have := hkz _ hm; omega))
  have UA := (Upd.refl [] w7).alloc (.cells x1.r.cells.toArray 38)
  have R7 := Lib.hid (Go.heap_alloc_last w7 (.cells x1.r.cells.toArray 38))
  have C8 := Lib.hid (c7.near UA)
  have M8 := Lib.hid (m7.near UA)
  have S48 := Lib.hid (UA.keep S47.out (by simp))
  have S38 := Lib.hid (UA.keep S37.out (by simp))
  have MB8 := Lib.hid (UA.keep MB7.out (by simp))
  have hz7 : w5.heap.size < w7.heap.size := lt_of_block MB7.out
  clear UA u7 c7 m7 C7 S47 S37 MB7 S45 S35 NA C6 M6
  generalize hW8 : w7.alloc (.cells x1.r.cells.toArray 38) = w8 at *
  have HW8 := Lib.hid hW8
  clear hW8
  have NB := Lib.hid (C8.out.nextG GA.out M8.out ha1 hc1 (by decide) (by decide))
  rw [← K2'.out, ← KQ.out] at NB
  go_wp2_with (first
    | go_skip
    | ((with_reducible refine at_st 7 ?_); refine L_store_new 38 (.tmp 7) (.tmp 31) rfl (by kernel_rfl) _ x1.r.cells.toArray rfl rfl 7 info_ret rfl rfl (RetV.one _) ?_; rw [HW8.out])
    | ((with_reducible refine at_op 35 ?_); refine L_load 33 (.tmp 6) rfl (by kernel_rfl) _ _ rfl #[.slice (some ⟨mb, 0, none⟩) 1024 1024] (row_arr MB8.out) Tryz.underlying33 rfl 1 info_memo rfl ?_))
  refine NB.out.mono ?_
  rintro e w9 ⟨fa2, ca2, ha2, hc2, rfl, c9, m9, u9⟩
  have S49 := Lib.hid (u9.keep S48.out (fun hm => by have := hkz _ hm; omega))
  have S39 := Lib.hid (u9.keep S38.out (fun hm => by have := hkz _ hm; omega))
  have R9 := Lib.hid (u9.keep R7.out (fun hm => by have := hkz _ hm; omega))
  have UB := (Upd.refl [] w9).alloc (.cells x2.r.cells.toArray 38)
  have Q9 := Lib.hid (Go.heap_alloc_last w9 (.cells x2.r.cells.toArray 38))
  have CA := Lib.hid (c9.near UB)
  have SA4 := Lib.hid (UB.keep S49.out (by simp))
  have SA3 := Lib.hid (UB.keep S39.out (by simp))
  have RA := Lib.hid (UB.keep R9.out (by simp))
  have hz9 : w7.heap.size < w9.heap.size := lt_of_block R9.out
  clear UB u9 c9 m9 S49 S39 R9 S48 S38 R7 MB8 NB C8 M8
  generalize hWA : w9.alloc (.cells x2.r.cells.toArray 38) = wX at *
  have HWA := Lib.hid hWA
  clear hWA
  have SB := Lib.hid (CA.out.state GB.out)
  go_wp2_with (first
    | go_skip
    | ((with_reducible refine at_st 9 ?_); refine L_store_new 38 (.tmp 9) (.tmp 37) rfl (by kernel_rfl) _ x2.r.cells.toArray rfl rfl 7 info_ret rfl rfl (RetV.one _) ?_; rw [HWA.out]))
  refine SB.out.mono ?_
  rintro e w10 ⟨rfl, u10⟩
  have CB := Lib.hid (CA.out.near u10)
  have SB4 := Lib.hid (u10.keep SA4.out (by simp))
  have SB3 := Lib.hid (u10.keep SA3.out (by simp))
  have RB := Lib.hid (u10.keep RA.out (by simp))
  have QB := Lib.hid (u10.keep Q9.out (by simp))
  have hzA : w9.heap.size < w10.heap.size := lt_of_block QB.out
  have LQ := GB.out.len
  have LQC := GB.out.clen
  clear u10 CA SA4 SA3 RA Q9 SB
  go_wp2_with (first
    | go_skip
    | ((with_reducible refine at_st 12 ?_); refine L_store_row 41 (.tmp 12) (.tmp 43) rfl (by kernel_rfl) (w10).heap.size 0 rfl (nums .u32 (List.replicate 32 0)).toList 41 (heap_old (Go.heap_alloc_last w10 _) _) (nums .u32 R2) rfl 32 info_r32 (by rw [nums_size]; exact LQ) (Nat.le_refl _) (nums_one _ _) ?_))
  intro wA b2 u2 z2
  rw [spl_all (by first | rfl | (simp only [Array.length_toList, nums_size, List.length_replicate]; exact LQ))] at b2
  have A1 := Lib.hid b2
  have A2 : Hid (wA.heap[(w10).heap.size + 1]? = some (.cells (nums .u32 (List.replicate 5 0)).toList.toArray 42 (0, 0))) := Lib.hid (u2.keep (heap2 w10 _ _) (by simp))
  have V2 := Lib.hid ((((Upd.refl [] w10).alloc _).alloc _).then u2 (fun x hx hlt => by simp at hx; omega))
  clear b2 u2 z2
  go_wp2_with (first
    | go_skip
    | ((with_reducible refine at_st 13 ?_); refine L_store_row 42 (.tmp 13) (.tmp 44) rfl (by kernel_rfl) ((w10).heap.size + 1) 0 rfl (nums .u32 (List.replicate 5 0)).toList 42 A2.out (nums .u32 x2.csrs) rfl 5 info_rc5 (by rw [nums_size]; exact LQC) (Nat.le_refl _) (nums_one _ _) ?_))
  intro w11 b3 u3 z3
  rw [spl_all (by first | rfl | (simp only [Array.length_toList, nums_size, List.length_replicate]; exact LQC))] at b3
  have T13 : Hid ((w11).heap[(w10).heap.size + 1]? = some (.cells (nums .u32 x2.csrs) 42 (0, 0))) := Lib.hid (by simpa using b3)
  have T12 : Hid ((w11).heap[(w10).heap.size]? = some (.cells (nums .u32 R2) 41 (0, 0))) := Lib.hid (by simpa using u3.keep A1.out (by simp))
  have V11 := Lib.hid (V2.out.then u3 (fun x hx hlt => by simp at hx; omega))
  clear b3 u3 z3 A1 A2 V2
  have CC := Lib.hid (CB.out.near V11.out)
  have SC4 := Lib.hid (V11.out.keep SB4.out (by simp))
  have SC3 := Lib.hid (V11.out.keep SB3.out (by simp))
  have RC := Lib.hid (V11.out.keep RB.out (by simp))
  have QC := Lib.hid (V11.out.keep QB.out (by simp))
  clear V11 CB SB4 SB3 RB QB T13
  obtain ⟨f1, f2, f3, f4, f5⟩ := HKF.out
  have p0 : w11.cell? ⟨w7.heap.size, 0, none⟩ = some (.int .u32 0) := by rw [cells_of RC.out]; exact congrArg (fun z => some (Value.int .u32 z)) f1
  have p2 : w11.cell? ⟨w7.heap.size, 2, none⟩ = some (.int .i64 5) := by rw [cells_of RC.out]; exact congrArg (fun z => some (Value.int .i64 z)) f2
  have p1 : w11.cell? ⟨w9.heap.size, 1, none⟩ = some (.int .u32 77) := by rw [cells_of QC.out]; exact congrArg (fun z => some (Value.int .u32 z)) f3
  have p5 : w11.cell? ⟨w10.heap.size, 5, none⟩ = some (.int .u32 77) := by rw [cells_of T12.out, nums_nth .u32 R2 5 (by omega), f5]; rfl
  have qR : ∀ w, (binOp .eql 41 (.agg (nums .u32 R0)) (.agg #[.int .u32 0, .int .u32 0, .int .u32 0, .int .u32 0, .int .u32 0, .int .u32 0, .int .u32 0, .int .u32 0, .int .u32 0, .int .u32 0, .int .u32 0, .int .u32 0, .int .u32 0, .int .u32 0, .int .u32 0, .int .u32 0, .int .u32 0, .int .u32 0, .int .u32 0, .int .u32 0, .int .u32 0, .int .u32 0, .int .u32 0, .int .u32 0, .int .u32 0, .int .u32 0, .int .u32 0, .int .u32 0, .int .u32 0, .int .u32 0, .int .u32 0, .int .u32 0])).run Tryz.prog w = .ok (.bool true) w := fun w => by
    have h := run_eqR R0 (List.replicate 32 0) LR rfl w
    rw [decide_eq_true HR.out] at h
    exact h
  have qC : ∀ w, (binOp .eql 42 (.agg (nums .u32 C0)) (.agg #[.int .u32 0, .int .u32 0, .int .u32 0, .int .u32 0, .int .u32 0])).run Tryz.prog w = .ok (.bool true) w := fun w => by
    have h := run_eqC C0 (List.replicate 5 0) LC rfl w
    rw [decide_eq_true HC.out] at h
    exact h
  have h8 : ((x2.next : Nat) : Int) = 8 := by rw [f4]; rfl
  have h8' : (((x2.next : Nat) : Int) == 8) = true := by rw [f4]; decide
  rw [f4] at CC
  clear f1 f2 f3 f4 f5 HKF
  obtain ⟨s3, hs3⟩ : ∃ s3, s3 = gold 8 R2 x2.csrs z4 0 fa2 0 ca2 := ⟨_, rfl⟩
  rw [← hs3] at CC
  have hz3 : s3.ff + s3.cf = 0 := by rw [hs3]; rfl
  have F1 := Lib.hid (fun w (h : CO zz k s3 w) => flip_no h (-1) (by decide) (by decide) (by decide))
  have F2 := Lib.hid (fun w (h : CO zz k s3 w) => flip_no2 h)
  have FB := Lib.hid (fun w (h : CO zz k s3 w) => CBits_calls k s3 w h.core)
  have FX : Hid (∀ w, CO zz k s3 w → Calls Tryz.prog 23 #[.pointer (some ⟨k.cb, 0, none⟩)] w fun e z' => e = .returned (.int .i64 0) ∧ Upd [] w z') := Lib.hid (fun w h => by
    have := CFixes_calls k s3 w h.core (by omega)
    rw [hz3] at this
    exact this)
  clear hs3 hz3
  go_upto_region 9 with (fail)
  repeat (first
    | (refine at_op 52 ?_; refine L_load 41 (.tmp 3) rfl (by kernel_rfl) _ _ rfl (nums .u32 R0) (row_arr SC3.out) Tryz.underlying41 rfl 32 info_r32 (by rw [nums_size]; exact LR) ?_)
    | (refine at_op 57 ?_; refine L_load 42 (.tmp 4) rfl (by kernel_rfl) _ _ rfl (nums .u32 C0) (row_arr SC4.out) Tryz.underlying42 rfl 5 info_rc5 (by rw [nums_size]; exact LC) ?_)
    | go_values | go_skip | go_guarded | go_step | go_upon)
  refine (F1.out _ CC.out).mono ?_
  rintro e w12 ⟨rfl, c12⟩
  have CD := Lib.hid c12
  go_wp2_with (fail)
  refine (FB.out _ CD.out).mono ?_
  rintro e w13 ⟨rfl, u13⟩
  have CE := Lib.hid (CD.out.near u13)
  go_wp2_with (fail)
  refine (FB.out _ CE.out).mono ?_
  rintro e w14 ⟨rfl, u14⟩
  have CF := Lib.hid (CE.out.near u14)
  go_wp2_with (fail)
  refine (F2.out _ CF.out).mono ?_
  rintro e w15 ⟨rfl, c15⟩
  have CG := Lib.hid c15
  go_wp2_with (fail)
  refine (FX.out _ CG.out).mono ?_
  rintro e w16 ⟨rfl, u16⟩
  have CH := Lib.hid (CG.out.near u16)
  go_wp2_with (fail)
  go_ret
  exact ⟨rfl, CH.out.upd⟩
end Go.Proofs.YtmdjhahafjlebaaGreatDoor
