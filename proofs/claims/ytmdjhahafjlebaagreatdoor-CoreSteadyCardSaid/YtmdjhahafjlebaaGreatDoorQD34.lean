/- What is made of anything whatever stays in its bounds (pure). -/
import Derived.Test.YtmdjhahafjlebaaGreatDoorQD32
import Derived.Test.YtmdjhahafjlebaaGreatDoorQD03
import Derived.Test.YtmdjhahafjlebaaGreatDoorQD33
import Derived.Test.YtmdjhahafjlebaaGreatDoorQD31
import Derived.Test.YtmdjhahafjlebaaGreatDoorQD29
namespace Go.Proofs.YtmdjhahafjlebaaGreatDoor
open Go.RowKit Go.Dio
set_option linter.unusedVariables false

structure W5 (cs : List Nat) : Prop where
  len : cs.length = 5
  lt : ∀ x ∈ cs, x < 2 ^ 32
theorem W5.at {cs : List Nat} (h : W5 cs) (k : Nat) : nth cs k < 2 ^ 32 := nth_lt h.lt (by decide) k
theorem W5.set {cs : List Nat} (h : W5 cs) (k n : Nat) (hn : n < 2 ^ 32) : W5 (cs.set k n) := ⟨by simpa using h.len, fun x hx => by
  rcases List.mem_or_eq_of_mem_set hx with h1 | rfl
  · exact h.lt x h1
  · exact hn⟩
structure RW (r : RetV) : Prop where
  val : 0 ≤ r.val ∧ r.val < 4294967296
  rd : 0 ≤ r.rd ∧ r.rd < 32
/-- What a core writes. -/
structure WGood (x : MadeV) : Prop where
  r : RW x.r
  next : x.next < 2 ^ 32
  cs : W5 x.csrs
theorem RW.none (pc : Int) (st : Bool) (A d m : Int) : RW ⟨pc, 0, 0, st, A, d, m⟩ := ⟨⟨Int.le_refl _, (show (0 : Int) < 4294967296 by decide)⟩, ⟨Int.le_refl _, (show (0 : Int) < 32 by decide)⟩⟩
theorem RW.write (pc rd n : Nat) (hd : rd < 32) (hn : n < 2 ^ 32) : RW (writeR pc rd n) := by
  unfold writeR
  by_cases h : rd = 0
  · rw [if_pos h]; exact RW.none _ _ _ _ _
  · rw [if_neg h]
    exact ⟨⟨by dsimp only; omega, by dsimp only; omega⟩, ⟨by dsimp only; omega, by dsimp only; omega⟩⟩
theorem wlow2_lt {n : Nat} (h : n < 2 ^ 32) : low2 n < 2 ^ 32 := by unfold low2; omega
theorem wtrap (pc cause val : Nat) (cs : List Nat) (h : W5 cs) (hp : pc < 2 ^ 32) (hc : cause < 2 ^ 32) (hv : val < 2 ^ 32) : WGood (trapP pc cs cause val) :=
  ⟨RW.none _ _ _ _ _, h.at 0, ((h.set 2 _ (wlow2_lt hp)).set 3 _ hc).set 4 _ hv⟩
theorem wjump (pc tg : Nat) (cs : List Nat) (i : InstV) (h : W5 cs) (hp : pc < 2 ^ 32) (hv : tg < 2 ^ 32) (hd : i.rd < 32) : WGood (jumpP pc cs i tg) := by
  unfold jumpP
  by_cases ht : tg % 4 ≠ 0
  · rw [if_pos ht]; exact wtrap pc 0 tg cs h hp (by decide) hv
  · rw [if_neg ht]; exact ⟨RW.write pc _ _ hd (u32_lt _), hv, h⟩
theorem wmove (pc a b : Nat) (cs : List Nat) (i : InstV) (word : Nat) (h : W5 cs) (hp : pc < 2 ^ 32) (hw : word < 2 ^ 32) (hd : i.rd < 32) : WGood (moveP pc a b cs i word) := by
  unfold moveP
  dsimp only
  by_cases ht : (accessP i.op (u32 ((a : Int) + i.imm))).2 = true
  · rw [if_pos ht]; exact wtrap pc _ _ cs h hp (accessP_lt _ _) (u32_lt _)
  · rw [if_neg ht]
    by_cases hl : i.op ≤ 15
    · rw [if_pos hl]; exact ⟨RW.write pc _ _ hd (loadP_lt _ _ _ hw), u32_lt ((pc : Int) + 4), h⟩
    · rw [if_neg hl]
      refine ⟨RW.none _ _ _ _ _, ?_, h⟩
      show (if _ then _ else _) < _
      split
      · exact hp
      · exact u32_lt _
theorem wcsrN (op r1 a old : Nat) (hr : r1 < 2 ^ 32) (ha : a < 2 ^ 32) (ho : old < 2 ^ 32) : csrN op r1 a old < 2 ^ 32 := by
  unfold csrN
  dsimp only
  have hn : (if 53 ≤ op then r1 else a) < 2 ^ 32 := by split <;> assumption
  split
  · exact ho
  · split
    · exact Nat.or_lt_two_pow hn ho
    · split
      · exact Nat.lt_of_le_of_lt Nat.and_le_left ho
      · exact hn
theorem wcsr (pc w a : Nat) (cs : List Nat) (i : InstV) (h : W5 cs) (hp : pc < 2 ^ 32) (hw : w < 2 ^ 32) (ha : a < 2 ^ 32) (hd : i.rd < 32) (hr : i.r1 < 32) : WGood (csrP pc w a cs i) := by
  unfold csrP
  by_cases hk : idxP i.imm < 0
  · rw [if_pos hk]; exact wtrap pc 2 w cs h hp (by decide) hw
  · rw [if_neg hk]
    dsimp only
    have hN := wcsrN i.op i.r1 a (nth cs (idxP i.imm).toNat) (by omega) ha (h.at _)
    refine ⟨RW.write pc _ _ hd (h.at _), u32_lt ((pc : Int) + 4), h.set _ _ ?_⟩
    split
    · exact wlow2_lt hN
    · exact hN
theorem do_w (pc w a b : Nat) (cs : List Nat) (word : Nat) (h : W5 cs) (hp : pc < 2 ^ 32) (hw : w < 2 ^ 32) (ha : a < 2 ^ 32) (hb : b < 2 ^ 32) (hwd : word < 2 ^ 32) : WGood (doP pc w a b cs word) := by
  rw [doP_eq]
  have wf := decodeP_wf w
  generalize decodeP w = i at *
  obtain ⟨op, rd, r1, r2, imm⟩ := i
  obtain ⟨h55, hd, h1, h2, hi1, hi2⟩ := wf
  dsimp only at h55 hd h1 h2 hi1 hi2
  unfold doI
  dsimp only
  by_cases c1 : op = 0
  · rw [if_pos c1]; exact wtrap pc 2 w cs h hp (by decide) hw
  rw [if_neg c1]
  by_cases c2 : op = 47
  · rw [if_pos c2]; exact wtrap pc 11 0 cs h hp (by decide) (by decide)
  rw [if_neg c2]
  by_cases c3 : op = 48
  · rw [if_pos c3]; exact wtrap pc 3 0 cs h hp (by decide) (by decide)
  rw [if_neg c3]
  by_cases c4 : op = 49
  · rw [if_pos c4]; exact ⟨RW.none _ _ _ _ _, h.at 2, h⟩
  rw [if_neg c4]
  by_cases c5 : 50 ≤ op
  · rw [if_pos c5]; exact wcsr pc w a cs ⟨op, rd, r1, r2, imm⟩ h hp hw ha hd h1
  rw [if_neg c5]
  by_cases c6 : op = 3
  · rw [if_pos c6]; exact wjump pc _ cs ⟨op, rd, r1, r2, imm⟩ h hp (u32_lt _) hd
  rw [if_neg c6]
  by_cases c7 : op = 4
  · rw [if_pos c7]; exact wjump pc _ cs ⟨op, rd, r1, r2, imm⟩ h hp (by have := u32_lt ((a : Int) + imm); omega) hd
  rw [if_neg c7]
  by_cases c8 : takenP op a b = true
  · rw [if_pos c8]; exact wjump pc _ cs ⟨op, rd, r1, r2, imm⟩ h hp (u32_lt _) hd
  rw [if_neg c8]
  by_cases c9 : 11 ≤ op ∧ op ≤ 18
  · rw [if_pos c9]; exact wmove pc a b cs ⟨op, rd, r1, r2, imm⟩ word h hp hwd hd
  rw [if_neg c9]
  refine ⟨?_, u32_lt ((pc : Int) + 4), h⟩
  show RW (if op = 1 then _ else _)
  by_cases d1 : op = 1
  · rw [if_pos d1]; exact RW.write pc rd _ hd (u32_lt _)
  rw [if_neg d1]
  by_cases d2 : op = 2
  · rw [if_pos d2]; exact RW.write pc rd _ hd (u32_lt _)
  rw [if_neg d2]
  by_cases d3 : 19 ≤ op ∧ op ≤ 27
  · rw [if_pos d3]; exact RW.write pc rd _ hd (aluP_lt op _ _ ⟨d3.1, by omega⟩ ha (u32_lt _))
  rw [if_neg d3]
  by_cases d4 : 28 ≤ op ∧ op ≤ 45
  · rw [if_pos d4]; exact RW.write pc rd _ hd (aluP_lt op _ _ ⟨by omega, d4.2⟩ ha hb)
  rw [if_neg d4]
  exact RW.none _ _ _ _ _
end Go.Proofs.YtmdjhahafjlebaaGreatDoor

namespace Go.Proofs.YtmdjhahafjlebaaGreatDoor
open Go.RowKit Go.Dio
set_option linter.unusedSimpArgs false
set_option linter.unusedVariables false

/-- Where words come from: a value, the blocks that a load may write, what holds of it, what it answers. -/
structure Bus (σ : Type) (rv : Value) (k : CoB) (base : Nat) where
  fp : List Nat
  ok : σ → World → Prop
  ld : σ → Nat → (Nat × Bool) × σ
  lt : ∀ m a w, ok m w → (ld m a).1.1 < 2 ^ 32
  call : ∀ m (a : Nat) w, ok m w → a < 2 ^ 32 → Calls Tryz.prog 170 #[rv, .int .u32 (a : Int)] w fun e w' => e = .returned (.tuple #[.int .u32 ((ld m a).1.1 : Int), .bool (ld m a).1.2]) ∧ ok (ld m a).2 w' ∧ Upd fp w w'
  meth : ∀ n w, (method (n + 1) 33 rv "Load").run Tryz.prog w = .ok (170, rv) w
  st : ∀ m S w w', ok m w → Upd S w w' → (∀ x ∈ S, x ∈ k.fp ∨ base ≤ x) → ok m w'
  apart : ∀ x ∈ fp, x ∉ k.fp ∧ x < base ∧ x ≠ 0
/-- A core, its bus, the block of an answer, behind some steps of a call. -/
structure At3 {σ : Type} {rv : Value} {k : CoB} {base : Nat} (B : Bus σ rv k base) (s : CoS) (m : σ) (zz w : World) : Prop where
  core : CoreAt k s w
  bus : B.ok m w
  ret : w.heap[zz.heap.size]? = some (.cells zR.cells.toArray 38 (0, 0))
  upd : Upd (k.fp ++ B.fp) zz w
  lt : ∀ x ∈ k.fp, x < zz.heap.size
  tab : 0 < zz.heap.size
  base : base ≤ zz.heap.size
section
variable {σ : Type} {rv : Value} {k : CoB} {base : Nat} {B : Bus σ rv k base} {s : CoS} {m : σ} {zz w w' : World}
theorem At3.near (h : At3 B s m zz w) (u : Upd [] w w') : At3 B s m zz w' :=
  ⟨h.core.upd0 u, B.st m [] w w' h.bus u (by simp), u.keep h.ret (by simp), h.upd.trans (u.mono (by simp)), h.lt, h.tab, h.base⟩
theorem At3.cor {s' : CoS} (h : At3 B s m zz w) (r : CoR k s' w w') : At3 B s' m zz w' :=
  ⟨r.core, B.st m _ w w' h.bus r.upd (fun x hx => .inl hx), r.upd.keep h.ret (fun hm => by have := h.lt _ hm; omega), h.upd.trans (r.upd.mono (fun x hx _ => List.mem_append_left _ hx)), h.lt, h.tab, h.base⟩
theorem At3.load {m' : σ} (h : At3 B s m zz w) (o : B.ok m' w') (u : Upd B.fp w w') : At3 B s m' zz w' :=
  ⟨h.core.upd u (fun x hx hm => (B.apart x hm).1 hx) (fun hm => (B.apart _ hm).2.2 rfl), o, u.keep h.ret (fun hm => by have := (B.apart _ hm).2.1; have := h.base; omega), h.upd.trans (u.mono (fun x hx _ => List.mem_append_right _ hx)), h.lt, h.tab, h.base⟩
theorem At3.lat {l : List Nat} (h : At3 B s m zz w) (r : LatAt k.lb k.ld l w') (u : Upd [k.ld] w w') (hl : l.length = 4) : At3 B { s with ll := l } m zz w' :=
  h.cor ⟨h.core.mkLat r u (by simp) hl, u.mono (fun x hx _ => by simp at hx; simp [CoB.fp, hx])⟩
/-- What a call has done. -/
structure CoR2 (B : Bus σ rv k base) (s : CoS) (m : σ) (w w' : World) : Prop where
  core : CoreAt k s w'
  bus : B.ok m w'
  upd : Upd (k.fp ++ B.fp) w w'
theorem At3.fin (h : At3 B s m zz w) (u : Upd [zz.heap.size] w w') : CoR2 B s m zz w' :=
  ⟨h.core.upd u (fun x hx hm => by have := h.lt x hx; simp at hm; omega) (fun hm => by have := h.tab; simp at hm; omega), B.st m _ w w' h.bus u (fun x hx => .inr (by have := h.base; simp at hx; omega)), h.upd.then u (fun x hx hlt => by simp at hx; omega)⟩
end
theorem call_bus (args : Array Value) (w : World) : (callFunc 170 args).run Tryz.prog w = .ok (.enter 170 args) w := by kernel_rfl
theorem seenV_sz (s : CoS) : s.seenV.size = 9 ∧ (s.seenV.all fun x => x.oneCell') = true := by
  unfold CoS.seenV
  split
  · exact ⟨rfl, by simp [seenC, Value.oneCell']⟩
  · exact ⟨rfl, zSeen_one⟩
theorem dec_lt (w : Nat) : (dec w).1 < 2 ^ 32 := Nat.mod_lt _ (by decide)
theorem CoS.pc_lt (s : CoS) : s.pc < 2 ^ 32 := dec_lt _
theorem CoS.csrs_w (s : CoS) : W5 s.csrs := ⟨rfl, fun x hx => by
  unfold CoS.csrs at hx
  simp only [List.mem_cons, List.not_mem_nil, or_false] at hx
  rcases hx with rfl | rfl | rfl | rfl | rfl <;> exact dec_lt _⟩
theorem ix3 (k : Nat) (h : k < 3) (w : World) : (Instr.index 123 (.agg #[.int .u32 0, .int .u32 8, .int .u32 34]) (.int .i64 (k : Int))).run Tryz.prog w = .ok (.int .u32 ((nth [0, 8, 34] k : Nat) : Int)) w := by
  rcases (by omega : k = 0 ∨ k = 1 ∨ k = 2) with rfl | rfl | rfl <;> kernel_rfl
theorem trap_u (pc cause val : Nat) (cs : List Nat) (z : World) (hp : pc < 2 ^ 32) (hc : cause < 2 ^ 32) (h5 : cs.length = 5) :
    Calls Tryz.prog 73 #[.agg (seenC pc 0 0 0 cs).toArray, .int .i64 (cause : Int), .int .u32 (val : Int)] z fun e z' => e = .returned (.agg (trapP pc cs cause val).cells.toArray) ∧ Upd [] z z' :=
  (trap_calls pc 0 0 0 cause val cs z hp hc h5).mono fun e z' ⟨h1, h2⟩ => ⟨h1, by subst h2; exact (((Upd.refl _ _).alloc _).alloc _).alloc _⟩
theorem slowP_lt (i : InstV) : slowP i < 3 := by unfold slowP; split <;> (try split) <;> decide
theorem cnt_lt (k : Nat) : nth [0, 8, 34] k < 2 ^ 32 := nth_lt (by decide) (by decide) k
set_option maxRecDepth 20000 in
set_option maxHeartbeats 8000000 in
theorem fetch_c {σ : Type} {rv : Value} {k : CoB} {base : Nat} (B : Bus σ rv k base) (s : CoS) (m : σ) (zz : World) (h : CoreAt k s zz) (hb : B.ok m zz) (hbase : base ≤ zz.heap.size) (hf : s.cf < 9223372036854775800) :
    Calls Tryz.prog 42 #[.pointer (some ⟨k.cb, 0, none⟩), .iface 33 rv] zz fun e z' => e = .returned (.tuple #[.agg (coFetch B.ld s m).1.cells.toArray, .int .i64 ((coFetch B.ld s m).2.1 : Int)]) ∧ CoR2 B (coFetch B.ld s m).2.2.1 (coFetch B.ld s m).2.2.2 zz z' := by
  have H := Lib.hid h
  have HB := Lib.hid hb
  have HBA := Lib.hid hbase
  have HZ := Lib.hid h.lt
  have HT := Lib.hid h.tz.lt
  have ok := Lib.hid h.ok
  have SE := Lib.hid (fun w (h : CoreAt k s w) => seen_calls k s w h hf)
  have SK := Lib.hid (fun s' w (h : CoreAt k s' w) => sick_calls k s' w h)
  have EN := Lib.hid (fun s' x w (h : CoreAt k s' w) (g : WGood x) => end_calls k s' x w h g.r.val g.r.rd g.next g.cs.len g.cs.lt)
  have hV := seenV_sz s
  clear h hb hbase
  go_enter Tryz.func42, Tryz.ntmps42
  go_upto_region 1 with (fail)
  generalize hW : World.alloc zz _ = z0
  have R0 : Hid (z0.heap[zz.heap.size]? = some (.cells zR.cells.toArray 38 (0, 0))) := Lib.hid (by rw [← hW]; exact Go.heap_alloc_last zz _)
  have U0 : Hid (Upd [] zz z0) := Lib.hid (by rw [← hW]; exact (Upd.refl _ _).alloc _)
  clear hW
  have T0 : Hid (At3 B s m zz z0) := Lib.hid ⟨H.out.upd0 U0.out, B.st m [] zz z0 HB.out U0.out (by simp), R0.out, U0.out.mono (by simp), HZ.out, HT.out, HBA.out⟩
  clear H HB HBA HZ HT U0 R0
  have HS : Hid (s.seenOk = true → s.seenV = (seenC s.pc 0 0 0 s.csrs).toArray) := Lib.hid (fun h => by unfold CoS.seenV; rw [if_pos h])
  generalize s.seenV = V at *
  go_wp2_with (fail)
  refine (SE.out _ T0.out.core).mono ?_
  rintro e w1 ⟨rfl, r⟩
  have T1 := Lib.hid (T0.out.cor r)
  have T2 := Lib.hid (T1.out.near ((Upd.refl [] w1).alloc (.cells V 115)))
  have SB := Lib.hid (Go.heap_alloc_last w1 (.cells V 115))
  clear r T0 T1
  have FE := Lib.hid (fun z => fetch_calls s.pc z s.pc_lt)
  have CW := Lib.hid s.csrs_w
  have hpl := s.pc_lt
  cases hk : s.seenOk
  · have HO : Hid (coFetch B.ld s m = coSick s.seenS m) := Lib.hid (by unfold coFetch; rw [if_pos hk])
    clear hk HS SE FE CW
    go_wp2_with (first
      | go_skip
      | ((with_reducible refine at_st 6 ?_); refine L_store_new 115 (.tmp 6) (.tmp 16) rfl (by kernel_rfl) _ V rfl rfl 9 info_seen rfl hV.1 hV.2 ?_))
    refine (SK.out _ _ T2.out.core).mono ?_
    rintro e w2 ⟨rfl, r⟩
    have T3 := Lib.hid (T2.out.cor r)
    clear r
    go_wp2_with (first
      | go_skip
      | ((with_reducible refine at_st 4 ?_); refine L_store_row 38 (.tmp 4) (.tmp 22) rfl (by kernel_rfl) zz.heap.size 0 rfl zR.cells 38 T3.out.ret (zR.cells.toArray) rfl 7 info_ret rfl (by decide) (RetV.one _) ?_))
    intro wA bA uA zA
    rw [spl_all (by rfl)] at bA
    go_wp2_with (fail)
    refine bodyPost_ret (results_row_tmp rfl _ _ zz.heap.size 38 (zR.cells.toArray) _ _ _ rfl rfl bA Tryz.underlying38 rfl info_ret) rfl ⟨by rw [HO.out]; rfl, ?_⟩
    rw [HO.out]
    exact T3.out.fin uA
  · have hv := HS.out hk
    subst hv
    have p0 : (w1.alloc (.cells (seenC s.pc 0 0 0 s.csrs).toArray 115)).cell? ⟨w1.heap.size, 0, none⟩ = some (.int .u32 (s.pc : Int)) := by rw [cells_of SB.out]; rfl
    have HO1 : Hid ((fetchP s.pc).2 = true → coFetch B.ld s m = coEnd s.seenS (trapP s.pc s.csrs (fetchP s.pc).1 s.pc) m) := Lib.hid (fun h => by unfold coFetch; rw [if_neg (by rw [hk]; decide), if_pos h])
    have HO2 : Hid ((fetchP s.pc).2 = false → coFetch B.ld s m = coLoad B.ld s m) := Lib.hid (fun h => by unfold coFetch; rw [if_neg (by rw [hk]; decide), if_neg (by rw [h]; decide)])
    clear hk HS SE
    generalize hWW : w1.alloc (.cells (seenC s.pc 0 0 0 s.csrs).toArray 115) = W at *
    have HWW := Lib.hid hWW
    clear hWW
    cases hbad : (fetchP s.pc).2
    · rw [hbad] at FE
      have HO3 := Lib.hid (HO2.out hbad)
      clear hbad HO1 HO2
      have HL : Hid (coLoad B.ld s m = if (B.ld m s.pc).1.2 = false then coSick s.seenS (B.ld m s.pc).2 else (zR, 0, { s.seenS with ll := ((s.ll.set 2 (pput (B.ld m s.pc).1.1)).set 1 (pput (nth [0, 8, 34] (slowP (decodeP (B.ld m s.pc).1.1))))).set 0 (pput 1) }, (B.ld m s.pc).2)) := Lib.hid rfl
      have BC := Lib.hid (B.call m s.pc)
      have hnl := B.lt m s.pc _ T2.out.bus
      generalize B.ld m s.pc = X at *
      obtain ⟨⟨n, okb⟩, m'⟩ := X
      dsimp only at BC HL hnl
      go_wp2_with (first
        | go_skip
        | ((with_reducible refine at_st 6 ?_); refine L_store_new 115 (.tmp 6) (.tmp 16) rfl (by kernel_rfl) _ (seenC s.pc 0 0 0 s.csrs).toArray rfl rfl 9 info_seen rfl hV.1 hV.2 ?_; rw [HWW.out]))
      refine (FE.out _).mono ?_
      rintro e w2 ⟨rfl, rfl⟩
      clear HWW
      go_wp2_with (fail)
      rw [B.meth]
      simp only [Result.andThen_ok]
      rw [call_bus]
      cases okb
      · have HO : Hid (coFetch B.ld s m = coSick s.seenS m') := Lib.hid (by rw [HO3.out, HL.out, if_pos rfl])
        refine Calls.mono (BC.out _ T2.out.bus hpl) ?_
        rintro e w3 ⟨rfl, o, u⟩
        have T3 := Lib.hid (T2.out.load o u)
        clear o u HO3 HL BC
        go_wp2_with (fail)
        refine (SK.out _ _ T3.out.core).mono ?_
        rintro e w4 ⟨rfl, r⟩
        have T4 := Lib.hid (T3.out.cor r)
        clear r
        go_wp2_with (first
          | go_skip
          | ((with_reducible refine at_st 4 ?_); refine L_store_row 38 (.tmp 4) (.tmp 51) rfl (by kernel_rfl) zz.heap.size 0 rfl zR.cells 38 T4.out.ret (zR.cells.toArray) rfl 7 info_ret rfl (by decide) (RetV.one _) ?_))
        intro wA bA uA zA
        rw [spl_all (by rfl)] at bA
        go_wp2_with (fail)
        refine bodyPost_ret (results_row_tmp rfl _ _ zz.heap.size 38 (zR.cells.toArray) _ _ _ rfl rfl bA Tryz.underlying38 rfl info_ret) rfl ⟨by rw [HO.out]; rfl, ?_⟩
        rw [HO.out]
        exact T4.out.fin uA
      · have HO : Hid (coFetch B.ld s m = (zR, 0, { s.seenS with ll := ((s.ll.set 2 (pput n)).set 1 (pput (nth [0, 8, 34] (slowP (decodeP n))))).set 0 (pput 1) }, m')) := Lib.hid (by rw [HO3.out, HL.out, if_neg (by decide)])
        have DC := Lib.hid (fun z => decode_calls n hnl z)
        have SL := Lib.hid (fun z => slow_calls (decodeP n) z)
        have hsl := slowP_lt (decodeP n)
        generalize decodeP n = D at *
        have IX := ix3 (slowP D) hsl
        have hcn := cnt_lt (slowP D)
        generalize nth [0, 8, 34] (slowP D) = cn at *
        generalize slowP D = sl at *
        refine Calls.mono (BC.out _ T2.out.bus hpl) ?_
        rintro e w3 ⟨rfl, o, u⟩
        have T3 := Lib.hid (T2.out.load o u)
        clear o u HO3 HL BC
        go_wp2_with (fail)
        refine (DC.out _).mono ?_
        rintro e w4 ⟨rfl, u⟩
        have HK : Hid (k.ld < w4.heap.size) := Lib.hid ((T3.out.near u).core.lt k.ld (by simp [CoB.fp]))
        have T4 := Lib.hid ((T3.out.near u).near ((Upd.refl [] w4).alloc (.cells D.arr 69)))
        have IB := Lib.hid (Go.heap_alloc_last w4 (.cells D.arr 69))
        have c3 := T4.out.core.c3
        have PW := Lib.hid (LPut_calls k.lb k.ld s.ll 2 n _ T4.out.core.lat (by rw [ok.out.ll]; decide) hnl)
        clear u DC
        generalize hW4 : w4.alloc (.cells D.arr 69) = W4 at *
        have HW4 := Lib.hid hW4
        clear hW4
        go_wp2_with (first
          | go_skip
          | ((with_reducible refine at_st 11 ?_); refine L_store_new 69 (.tmp 11) (.tmp 56) rfl (by kernel_rfl) _ D.arr rfl rfl 5 info_inst rfl rfl (InstV.one _) ?_; rw [HW4.out]))
        refine PW.out.mono ?_
        rintro e w5 ⟨rfl, r, u⟩
        have T5 := Lib.hid (T4.out.lat r u (by simpa using ok.out.ll))
        have IB5 := Lib.hid (u.keep IB.out (fun hm => by have := HK.out; simp at hm; omega))
        have n3 := T5.out.core.nl
        clear r u PW c3 T4 HW4
        go_wp2_with (fail)
        refine wp_region_plan (fun z => ∃ x : Near [k.ld] w5, z = x.1) [([0, 1, 2, 3, 4, 5], 6), ([7], 8)] [] (by kernel_rfl) (by kernel_rfl) (by kernel_rfl) (by kernel_rfl) (fun _ d _ _ _ h => by cases d <;> exact h) ⟨⟨(w5).drew, (Upd.refl _ _).drew⟩, rfl⟩ ?_
        refine plan_next ?_
        simp only [opsAt, List.map_cons, List.map_nil, List.getElem?_toArray, List.getElem?_cons_zero, List.getElem?_cons_succ, Option.getD_some]
        repeat (first
          | go_big_quiet_step (fail)
          | (refine Q_load 69 (.tmp 11) rfl (by kernel_rfl) _ _ rfl D.arr (by rintro _ ⟨y, rfl⟩; exact row_arr (y.2.keep IB5.out (fun hm => by have := HK.out; simp at hm; omega))) Tryz.underlying69 rfl 5 info_inst rfl ?_; go_simp))
        refine wpQuiet_nil ?_
        refine plan_one rfl ?_
        go_wp2_with fail
        refine (SL.out _).mono ?_
        rintro e w6 ⟨rfl, u⟩
        have U6 : Upd [] w5 w6 := ((Upd.refl _ _).drew).trans u
        have T6 := Lib.hid (T5.out.near U6)
        have PW := Lib.hid (LPut_calls k.lb k.ld (s.ll.set 2 (pput n)) 1 cn w6 T6.out.core.lat (by simp; rw [ok.out.ll]; decide) hcn)
        clear u IB5 SL
        go_wp2_with fail
        refine plan_same ⟨⟨_, (U6.mono (by simp))⟩, rfl⟩ ?_
        refine plan_next ?_
        simp only [opsAt, List.map_cons, List.map_nil, List.getElem?_toArray, List.getElem?_cons_zero, List.getElem?_cons_succ, Option.getD_some]
        repeat (go_big_quiet_step (fail))
        refine wpQuiet_nil ?_
        refine plan_one rfl ?_
        go_wp2_with fail
        refine PW.out.mono ?_
        rintro e w7 ⟨rfl, r, u7⟩
        have T7 := Lib.hid (T6.out.lat r u7 (by simpa using ok.out.ll))
        have U7 : Upd [k.ld] w5 w7 := (U6.mono (by simp)).trans u7
        clear r u7 PW T6 U6 n3 IX
        go_wp2_with fail
        refine plan_same ⟨⟨_, U7⟩, rfl⟩ ?_
        have c3 := T7.out.core.c3
        have PX := Lib.hid (LPut_calls k.lb k.ld ((s.ll.set 2 (pput n)).set 1 (pput cn)) 0 1 w7 T7.out.core.lat (by simp; rw [ok.out.ll]; decide) (by decide))
        refine plan_last ?_
        simp only [opsAt, List.map_cons, List.map_nil, List.getElem?_toArray, List.getElem?_cons_zero, List.getElem?_cons_succ, Option.getD_some]
        repeat (go_big_quiet_step (fail))
        refine wpQuiet_nil ?_
        unfold planEnd
        go_wp2_with fail
        refine PX.out.mono ?_
        rintro e w8 ⟨rfl, r, u8⟩
        have T8 := Lib.hid (T7.out.lat r u8 (by simpa using ok.out.ll))
        clear r u8 PX T7 c3 U7 T5
        go_wp2_with (first
          | go_skip
          | ((with_reducible refine at_st 4 ?_); refine L_store_row 38 (.tmp 4) (.tmp 78) rfl (by kernel_rfl) zz.heap.size 0 rfl zR.cells 38 T8.out.ret (zR.cells.toArray) rfl 7 info_ret rfl (by decide) (RetV.one _) ?_))
        intro wA bA uA zA
        rw [spl_all (by rfl)] at bA
        go_wp2_with (fail)
        refine bodyPost_ret (results_row_tmp rfl _ _ zz.heap.size 38 (zR.cells.toArray) _ _ _ rfl rfl bA Tryz.underlying38 rfl info_ret) rfl ⟨by rw [HO.out]; rfl, ?_⟩
        rw [HO.out]
        exact T8.out.fin uA
    · have HO := Lib.hid (HO1.out hbad)
      rw [hbad] at FE
      have TR := Lib.hid (fun z => trap_u s.pc (fetchP s.pc).1 s.pc s.csrs z hpl (by unfold fetchP; split <;> (try split) <;> decide) rfl)
      have WG := Lib.hid (wtrap s.pc (fetchP s.pc).1 s.pc s.csrs CW.out hpl (by unfold fetchP; split <;> (try split) <;> decide) hpl)
      generalize (fetchP s.pc).1 = cause at *
      generalize trapP s.pc s.csrs cause s.pc = X at *
      clear hbad HO1 HO2
      have HSB := Lib.hid (show W.heap[w1.heap.size]? = some (.cells (seenC s.pc 0 0 0 s.csrs).toArray 115 (0, 0)) from SB.out)
      go_wp2_with (first
        | go_skip
        | ((with_reducible refine at_st 6 ?_); refine L_store_new 115 (.tmp 6) (.tmp 16) rfl (by kernel_rfl) _ (seenC s.pc 0 0 0 s.csrs).toArray rfl rfl 9 info_seen rfl hV.1 hV.2 ?_; rw [HWW.out]))
      refine (FE.out _).mono ?_
      rintro e w2 ⟨rfl, rfl⟩
      clear HWW
      go_wp2_with (first
        | go_skip
        | ((with_reducible refine at_op 32 ?_); refine L_load 115 (.tmp 6) rfl (by kernel_rfl) _ _ rfl (seenC s.pc 0 0 0 s.csrs).toArray (row_arr HSB.out) Tryz.underlying115 rfl 9 info_seen rfl ?_))
      refine (TR.out _).mono ?_
      rintro e w3 ⟨rfl, u⟩
      have T3 := Lib.hid (T2.out.near u)
      clear u TR HSB
      go_wp2_with (fail)
      refine (EN.out _ X _ T3.out.core WG.out).mono ?_
      rintro e w4 ⟨rfl, r⟩
      have T4 := Lib.hid (T3.out.cor r)
      clear r
      go_wp2_with (first
        | go_skip
        | ((with_reducible refine at_st 4 ?_); refine L_store_row 38 (.tmp 4) (.tmp 38) rfl (by kernel_rfl) zz.heap.size 0 rfl zR.cells 38 T4.out.ret (X.r.cells.toArray) rfl 7 info_ret rfl (by decide) (RetV.one _) ?_))
      intro wA bA uA zA
      rw [spl_all (by rfl)] at bA
      go_wp2_with (fail)
      refine bodyPost_ret (results_row_tmp rfl _ _ zz.heap.size 38 (X.r.cells.toArray) _ _ _ rfl rfl bA Tryz.underlying38 rfl info_ret) rfl ⟨by rw [HO.out]; rfl, ?_⟩
      rw [HO.out]
      exact T4.out.fin uA
end Go.Proofs.YtmdjhahafjlebaaGreatDoor
