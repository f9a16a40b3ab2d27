/- Law 17: SaveMends. -/
import Derived.Test.YtfnemolaoijbhacDoorL17l
import Derived.Test.YtfnemolaoijbhacDoorSvQ
import Derived.Test.YtfnemolaoijbhacDoorAt
namespace Go.Proofs.YtfnemolaoijbhacDoor
open Go.RowKit Go.Dio
set_option linter.unusedSimpArgs false
set_option linter.unusedVariables false

def zAsk : Value := .agg #[.int .i64 0, .int .i64 0, .int .u32 0, .int .u32 0, .int .u32 0, .int .u32 0, .int .u32 0, .int .u32 0, .int .u32 0, .int .u32 0, .int .u32 0, .int .u32 0, .int .u32 0, .int .u32 0, .int .u32 0, .int .u32 0, .int .u32 0, .int .u32 0, .int .u32 0, .int .u32 0, .int .u32 0, .int .u32 0, .int .u32 0, .int .u32 0, .int .u32 0, .int .u32 0, .int .u32 0, .int .u32 0, .int .u32 0, .int .u32 0, .int .u32 0, .int .u32 0, .int .u32 0, .int .u32 0, .int .u32 0, .int .u32 0, .int .u32 0, .int .u32 0, .int .u32 0, .int .u32 0]
def yAsk {H : Type} : DataW H := .agg [.lit (.int .i64 0), .lit (.int .i64 0), .lit (.int .u32 0), .agg (List.replicate 32 (.lit (.int .u32 0))), .agg (List.replicate 5 (.lit (.int .u32 0)))]
theorem and65535i (z : Int) : bits .and .i64 z 65535 = z % 65536 := by
  have e : bits .and .i64 z 65535 = IntKind.i64.wrap (((BitVec.ofInt 64 z) &&& (BitVec.ofInt 64 65535)).toNat : Int) := rfl
  have h1 : (BitVec.ofInt 64 65535 : BitVec 64).toNat = 2 ^ 16 - 1 := by decide
  rw [BitVec.toNat_and, h1, Nat.and_two_pow_sub_one_eq_mod] at e
  rw [e, wrapi64 (Int.natCast_nonneg _) (by have := Nat.mod_lt (BitVec.ofInt 64 z).toNat (show 0 < 2 ^ 16 by decide); omega)]
  rw [BitVec.toNat_ofInt]
  omega
/-- An ask whose first register is 0. -/
def AskS.z (x : AskS) : AskS := ⟨x.kind, x.n, x.pc, 0 :: x.regs.tail, x.csrs⟩
theorem AskS.z_ok {x : AskS} (h : x.Ok) : x.z.Ok := ⟨h.kind, h.n, h.pc, by simp [AskS.z, h.lr], h.lc, fun v hv => by
  rcases List.mem_cons.1 hv with rfl | h1
  · decide
  · exact h.br v (List.mem_of_mem_tail h1), h.bc⟩
theorem AskS.z_cells {x : AskS} (h : x.Ok) : x.cells.toArray.setIfInBounds 3 (.int .u32 0) = x.z.cells.toArray := by
  obtain ⟨k0, n0, p0, r0, c0⟩ := x
  cases r0 with
  | nil => have := h.lr; simp at this
  | cons r0 rt => simp [AskS.cells, AskS.z, vals]
theorem AskS.cell3 {w : World} {b : Nat} {x : AskS} {T : TypeId} (h : x.Ok) (hb : w.heap[b]? = some (.cells x.cells.toArray T (0, 0))) : w.cell? ⟨b, 3, none⟩ = some (.int .u32 ((nth x.regs 0 : Nat) : Int)) := by
  obtain ⟨r1, r2⟩ := AskS.regs_at (o := 0) h (by simpa using row_range hb)
  have := r1 0 (.int .u32 ((nth x.regs 0 : Nat) : Int)) (by
    have := nums_nth .u32 x.regs 0 (by rw [h.lr]; decide)
    simpa using this)
  simpa using this
theorem cnt_small {m : Nat} (h : m < 65536) : cntP (m : Int) = m := by unfold cntP; omega
theorem eq_rows (t : TypeId) (n : Nat) (ht : Tryd.prog.underlying t = some (.array n 26)) (xs ys : List Nat) (hx : xs.length = n) (hy : ys.length = n) (w : World) :
    (binOp .eql t (.agg (nums .u32 xs)) (.agg (nums .u32 ys))).run Tryd.prog w = .ok (.bool (decide (xs = ys))) w :=
  run_eql_nums t 26 n .u32 ht Tryd.underlying26 (fun w => by rfl) xs ys hx hy w
/-- The rows at the loop's head. -/
def mL (k j : Nat) (L2 : List Nat) : List Nat := if k < j then svRow zeroC zeroC 0 else L2

set_option maxRecDepth 20000 in
set_option maxHeartbeats 4000000 in
theorem mends17_walk (a b : AskS) (x y : Int) (w : World) (ha : a.Ok) (hb : b.Ok) (hx : -9223372036854775808 ≤ x ∧ x ≤ 9223372036854775807) (hy : -9223372036854775808 ≤ y ∧ y ≤ 9223372036854775807) (hT : Tz w) :
    Calls Tryd.prog 4 #[.agg a.cells.toArray, .agg b.cells.toArray, .int .i64 x, .int .i64 y] w fun e w' => e = .returned (.bool true) ∧ Below w.heap.size w w' := by
  have HT := Lib.hid hT
  have N1 := Lib.hid fun As w1 (h : Env w As w1) => E_snew h
  have W1 := Lib.hid fun w' => Within_calls x 0 3080 w' (by omega) (by omega) (by omega) hx
  have W2 := Lib.hid fun w' => Within_calls y 0 3080 w' (by omega) (by omega) (by omega) hy
  obtain ⟨b1, b2⟩ := within_range (n := x) (show (0 : Int) ≤ 3080 by omega)
  obtain ⟨b3, b4⟩ := within_range (n := y) (show (0 : Int) ≤ 3080 by omega)
  obtain ⟨i, hi⟩ : ∃ M : Nat, within x 0 3080 = (M : Int) := ⟨(within x 0 3080).toNat, by omega⟩
  obtain ⟨k, hk⟩ : ∃ M : Nat, within y 0 3080 = (M : Int) := ⟨(within y 0 3080).toNat, by omega⟩
  rw [hi] at W1 b2
  rw [hk] at W2 b4
  have hi3 : i < 3081 := by omega
  have hk3 : k < 3081 := by omega
  clear hi hk b1 b2 b3 b4 hx hy
  have K := Lib.hid fun w' (h : Tz w') => known17_calls w' h
  have AZ := AskS.z_ok ha
  have BZ := AskS.z_ok hb
  have HA := Lib.hid ha
  have HB := Lib.hid hb
  have ca := AskS.z_cells ha
  have cb := AskS.z_cells hb
  obtain ⟨n, hn⟩ : ∃ n : Nat, a.n % 65536 = (n : Int) := ⟨(a.n % 65536).toNat, by omega⟩
  obtain ⟨m, hm⟩ : ∃ m : Nat, b.n % 65536 = (m : Int) := ⟨(b.n % 65536).toNat, by omega⟩
  have n16 : n < 65536 := by omega
  have m16 : m < 65536 := by omega
  have an := and65535i a.n
  have bn := and65535i b.n
  rw [hn] at an
  rw [hm] at bn
  have a0 := nth a.regs 0
  obtain ⟨a', ha'⟩ : ∃ a', a' = a.z := ⟨_, rfl⟩
  obtain ⟨b', hb'⟩ : ∃ b', b' = b.z := ⟨_, rfl⟩
  have an' : a'.n = a.n := by rw [ha']; rfl
  have bn' : b'.n = b.n := by rw [hb']; rfl
  have ta : 0 :: a'.regs.tail = a'.regs := by rw [ha']; rfl
  have tb : 0 :: b'.regs.tail = b'.regs := by rw [hb']; rfl
  rw [← ha'] at AZ ca
  rw [← hb'] at BZ cb
  -- the rows
  obtain ⟨s1, t1⟩ := (newS_two.save (V := saveV a'.pc a'.regs a'.csrs (n : Int)) (saveV_len AZ.lr AZ.lc) (saveV_lt AZ.pc AZ.br AZ.bc)).1 rfl
  obtain ⟨s2, t2⟩ := (t1.save (V := saveV b'.pc b'.regs b'.csrs (m : Int)) (saveV_len BZ.lr BZ.lc) (saveV_lt BZ.pc BZ.br BZ.bc)).2 rfl
  have o1 := one_load t2 (save_mark BZ.lr BZ.lc) hi3
  have o2 := two_load t2 (save_mark BZ.lr BZ.lc) (save_mark AZ.lr AZ.lc) hi3 hk3
  have g1 : getF (svRow zeroC zeroC 0) 78 = 0 := (newS_two.get (show 78 < 79 by decide)).2
  have g2 : getF (svRow zeroC (saveV a'.pc a'.regs a'.csrs (n : Int)) 1) 78 = 0 := (t1.get (show 78 < 79 by decide)).2
  have l0 : (svRow zeroC zeroC 0).length = 79 := svRow_len newS_two.l0 newS_two.l1
  have l1 := svRow_len (k := 1) t1.l0 t1.l1
  have l2 := svRow_len (k := 0) t2.l0 t2.l1
  rw [cpV_save BZ.lr BZ.lc, tb, cnt_small m16] at o1 o2
  rw [cpV_save AZ.lr AZ.lc, ta, cnt_small n16] at o2
  have SA := Lib.hid fun As w1 j mb bb d (h : Env w As w1) (hj : As[j]? = some (holdA 68 mb bb d (svRow zeroC zeroC 0) 0 0)) => E_ssave h HT.out j hj a'.pc a'.regs a'.csrs (n : Int) l0 (by decide) AZ.lr AZ.lc AZ.pc AZ.br AZ.bc (by omega)
  rw [s1, g1] at SA
  have SB := Lib.hid fun As w1 j mb bb d (h : Env w As w1) (hj : As[j]? = some (holdA 68 mb bb d (svRow zeroC (saveV a'.pc a'.regs a'.csrs (n : Int)) 1) (0 + 0) 0)) => E_ssave h HT.out j hj b'.pc b'.regs b'.csrs (m : Int) l1 (by decide) BZ.lr BZ.lc BZ.pc BZ.br BZ.bc (by omega)
  rw [s2, g2] at SB
  generalize svRow zeroC (saveV a'.pc a'.regs a'.csrs (n : Int)) 1 = L1 at SA SB
  generalize svRow (saveV b'.pc b'.regs b'.csrs (m : Int)) (saveV a'.pc a'.regs a'.csrs (n : Int)) 0 = L2 at SB o1 o2 l2
  obtain ⟨L0, hL0⟩ : ∃ L0, L0 = svRow zeroC zeroC 0 := ⟨_, rfl⟩
  rw [← hL0] at SA N1
  have f1 : flipB L2 (i : Int) = true := flip_ok (by omega)
  have f2 : flipB (flipL L2 (i : Int)) (k : Int) = true := flip_ok (by rw [flipL_len]; omega)
  have fl1 : (flipL L2 (i : Int)).length = 79 := by rw [flipL_len, l2]
  have fl2 : (flipL (flipL L2 (i : Int)) (k : Int)).length = 79 := by rw [flipL_len, fl1]
  have FA := Lib.hid fun As w1 j mb bb d (h : Env w As w1) (hj : As[j]? = some (holdA 68 mb bb d L2 0 0)) => E_sflip h HT.out j hj (i : Int)
  rw [f1] at FA
  have FB := Lib.hid fun As w1 j mb bb d (h : Env w As w1) (hj : As[j]? = some (holdA 68 mb bb d (flipL L2 (i : Int)) 0 0)) => E_sflip h HT.out j hj (k : Int)
  rw [f2] at FB
  have LA := Lib.hid fun As w1 j mb bb d (h : Env w As w1) (hj : As[j]? = some (holdA 68 mb bb d (flipL L2 (i : Int)) 0 0)) => E_sload h HT.out j hj fl1 (by decide)
  rw [o1] at LA
  have LB := Lib.hid fun As w1 j mb bb d (h : Env w As w1) (hj : As[j]? = some (holdA 68 mb bb d (flipL (flipL L2 (i : Int)) (k : Int)) 0 0)) => E_sload h HT.out j hj fl2 (by decide)
  generalize hX : loadV (flipL (flipL L2 (i : Int)) (k : Int)) = X at LB o2
  generalize flipL (flipL L2 (i : Int)) (k : Int) = L4 at LB FB
  generalize flipL L2 (i : Int) = L3 at LA FA FB
  have O2 := Lib.hid o2
  have AZ := Lib.hid AZ
  have BZ := Lib.hid BZ
  have PCA : Hid (a'.pc = a'.pc) := Lib.hid rfl
  have CA := Lib.hid ca
  have CB := Lib.hid cb
  have AN := Lib.hid an'
  have BN := Lib.hid bn'
  have c3a : ∀ w1 : World, w1.heap[w.heap.size]? = some (.cells a.cells.toArray 30 (0, 0)) → w1.cell? ⟨w.heap.size, 3, none⟩ = some (.int .u32 ((nth a.regs 0 : Nat) : Int)) := fun w1 h => AskS.cell3 HA.out h
  have c3b : ∀ w1 : World, w1.heap[w.heap.size + 1]? = some (.cells b.cells.toArray 30 (0, 0)) → w1.cell? ⟨w.heap.size + 1, 3, none⟩ = some (.int .u32 ((nth b.regs 0 : Nat) : Int)) := fun w1 h => AskS.cell3 HB.out h
  have c3a := Lib.hid c3a
  have c3b := Lib.hid c3b
  clear o1 o2 ca cb an' bn' ta tb s1 t1 s2 t2 g1 g2 l0 l1 l2 f1 f2 fl1 fl2 hX hL0 hn hm ha hb hT ha' hb' PCA a0
  go_enter Tryd.func4, Tryd.ntmps4
  go_wp2_with (fail)
  have H : Hid (Env w [blk (w.heap.size + 1) b.cells 30, blk w.heap.size a.cells 30] ((w.alloc (.cells a.cells.toArray 30)).alloc (.cells b.cells.toArray 30))) := by
    have e1 := (Env.none HT.out).add ((Upd.refl [] w).alloc (.cells a.cells.toArray 30)) (blk w.heap.size a.cells 30) (Go.heap_alloc_last w _) (by simp [blk]) (fun x hx => by simp [blk] at hx; subst hx; exact ⟨Nat.le_refl _, by simp⟩)
    exact Lib.hid (e1.add ((Upd.refl [] _).alloc (.cells b.cells.toArray 30)) (blk (w.heap.size + 1) b.cells 30) (alloc_two w _ _) (by simp [blk]) (fun x hx => by simp [blk] at hx; subst hx; simp))
  generalize (w.alloc (.cells a.cells.toArray 30)).alloc (.cells b.cells.toArray 30) = w1 at H ⊢
  refine (N1.out _ _ H.out).mono ?_
  rintro e w2 ⟨rfl, H'⟩
  generalize w1.heap.size + 2 = sa at H' ⊢
  generalize w1.heap.size + 1 = sb at H'
  generalize w1.heap.size = sd at H'
  replace H := Lib.hid H'
  clear H'
  go_wp2_with (fail)
  refine (N1.out _ _ H.out).mono ?_
  rintro e w3 ⟨rfl, H'⟩
  generalize w2.heap.size + 2 = ta at H' ⊢
  generalize w2.heap.size + 1 = tb at H'
  generalize w2.heap.size = td at H'
  replace H := Lib.hid H'
  clear H' N1
  -- the first registers are 0
  have c1 := c3a.out w3 (H.out.ok 3 _ rfl)
  have fa := free_of (H.out.ok 3 _ rfl) 3
  have c2 := c3b.out w3 (H.out.ok 2 _ rfl)
  have fb := free_of (H.out.ok 2 _ rfl) 3
  go_upto_region 5 with (fail)
  have H1 := H.out.set HT.out 3 rfl ((Upd.refl [w.heap.size] w3).setCell (p := ⟨w.heap.size, 3, none⟩) (by simp) (.int .u32 0)) (by simp [blk]) (A' := blk w.heap.size a'.cells 30) (by show (World.heap _)[_]? = some _; rw [heap_setCell_eq (H.out.ok 3 _ rfl), CA.out]) rfl
  have H2 := H1.set HT.out 2 rfl ((Upd.refl [w.heap.size + 1] _).setCell (p := ⟨w.heap.size + 1, 3, none⟩) (by simp) (.int .u32 0)) (by simp [blk]) (A' := blk (w.heap.size + 1) b'.cells 30) (by show (World.heap _)[_]? = some _; rw [heap_setCell_eq (H1.ok 2 _ rfl), CB.out]) rfl
  simp only [List.set_cons_succ, List.set_cons_zero] at H2
  clear c1 c2 fa fb H1 H c3a c3b CA CB
  have H := Lib.hid H2
  clear H2
  generalize (w3.setCell ⟨w.heap.size, 3, none⟩ (.int .u32 0)).setCell ⟨w.heap.size + 1, 3, none⟩ (.int .u32 0) = w4 at H ⊢
  have hu : ∀ As w', Env w As w' → Below w.heap.size w w' := fun _ _ h => h.below
  have HU := Lib.hid hu
  clear hu
  generalize w.heap.size + 1 = q2 at H ⊢
  generalize w.heap.size = q1 at H HU ⊢
  have n1 : ∀ z : Near [] w4, z.1.cell? ⟨q1, 1, none⟩ = some (.int .i64 a.n) := fun z => by rw [cells_of ((H.out.near z.2).ok 3 _ rfl), ← AN.out]; rfl
  have n2 : ∀ z : Near [] w4, z.1.cell? ⟨q2, 1, none⟩ = some (.int .i64 b.n) := fun z => by rw [cells_of ((H.out.near z.2).ok 2 _ rfl), ← BN.out]; rfl
  go_wp2_with (fail)
  refine wp_region_plan (fun z => ∃ x : Near [] w4, z = x.1) [] [0, 1, 2, 3, 4, 5, 6, 7] (by kernel_rfl) (by kernel_rfl) (by kernel_rfl) (by kernel_rfl) (fun _ d _ _ _ h => by cases d <;> exact h) ⟨⟨(w4).drew, (Upd.refl _ _).drew⟩, rfl⟩ ?_
  refine plan_last ?_
  simp only [opsAt, List.map_cons, List.map_nil, List.getElem?_toArray, List.getElem?_cons_zero, List.getElem?_cons_succ, Option.getD_some]
  repeat (go_big_quiet_step (fail))
  refine wpQuiet_nil ?_
  unfold planEnd
  go_wp2_with fail
  clear n1 n2 an bn
  replace H := Lib.hid (H.out.near (Upd.refl _ _).drew)
  generalize w4.drew = w5 at H ⊢
  refine (W1.out _).mono ?_
  rintro e w' ⟨rfl, hw'⟩
  obtain rfl := hw'
  go_wp2_with (fail)
  refine (W2.out _).mono ?_
  rintro e w'' ⟨rfl, hw'⟩
  obtain rfl := hw'
  clear W1 W2
  go_wp2_with (fail)
  have H2 := H.out.add ((Upd.refl [] w'').alloc (.cells #[.pointer (some ⟨sa, 0, none⟩), .pointer (some ⟨ta, 0, none⟩)] 32)) (blk w''.heap.size [.pointer (some ⟨sa, 0, none⟩), .pointer (some ⟨ta, 0, none⟩)] 32) (Go.heap_alloc_last w'' _) (by simp [blk]) (fun x hx => by simp [blk] at hx; subst hx; exact ⟨Nat.le_refl _, by simp⟩)
  generalize w''.alloc (.cells #[.pointer (some ⟨sa, 0, none⟩), .pointer (some ⟨ta, 0, none⟩)] 32) = w6 at H2 ⊢
  generalize w''.heap.size = qs at H2 ⊢
  clear H
  have H := Lib.hid H2
  clear H2
  go_loopg [56] 2 (fun g v56 wl => ∃ j : Nat, v56 = .int .i64 (j : Int) ∧ j ≤ 2 ∧ g = 2 - j ∧ Hid (Env w [blk qs [.pointer (some ⟨sa, 0, none⟩), .pointer (some ⟨ta, 0, none⟩)] 32, holdA 68 ta tb td (if j < 2 then L0 else L2) 0 0, holdA 68 sa sb sd (if j < 1 then L0 else L2) 0 0, blk q2 b'.cells 30, blk q1 a'.cells 30] wl))
  case atStart => exact ⟨0, rfl, by omega, rfl, H⟩
  case round =>
    clear H
    obtain ⟨j, rfl, hj, hg, H⟩ := hrel
    rcases (by omega : j = 0 ∨ j = 1 ∨ j = 2) with rfl | rfl | rfl
    · have c0 : wr.cell? ⟨qs, 0, none⟩ = some (.pointer (some ⟨sa, 0, none⟩)) := cells_of (H.out.ok 0 _ rfl) 0
      have A0 := H.out.ok 4 _ rfl
      have B0 := H.out.ok 3 _ rfl
      have ca2 : wr.cell? ⟨q1, 2, none⟩ = some (.int .u32 (a'.pc : Int)) := by rw [cells_of A0]; rfl
      obtain ⟨r1, r2⟩ := AskS.regs_at (o := 0) AZ.out (by simpa using row_range A0)
      have R1 := Lib.hid r1
      have R2 := Lib.hid r2
      clear r1 r2 A0 B0
      go_wp2_with (first
        | go_skip
        | ((with_reducible refine at_op 64 ?_); refine L_load 27 (.tmp 63) rfl (by kernel_rfl) _ _ rfl (nums .u32 a'.regs) R1.out Tryd.underlying27 rfl 32 info_r32' (by rw [nums_size]; exact AZ.out.lr) ?_)
        | ((with_reducible refine at_op 66 ?_); refine L_load 28 (.tmp 65) rfl (by kernel_rfl) _ _ rfl (nums .u32 a'.csrs) R2.out Tryd.underlying28 rfl 5 info_r5 (by rw [nums_size]; exact AZ.out.lc) ?_)
        | fail)
      refine (SA.out _ _ 2 _ _ _ H.out rfl).mono ?_
      rintro e wa ⟨rfl, H', u⟩
      simp only [List.set_cons_succ, List.set_cons_zero] at H'
      replace H := Lib.hid H'
      clear H' u R1 R2 ca2 c0
      have B0 := H.out.ok 3 _ rfl
      have cb2 : wa.cell? ⟨q2, 2, none⟩ = some (.int .u32 (b'.pc : Int)) := by rw [cells_of B0]; rfl
      obtain ⟨r1, r2⟩ := AskS.regs_at (o := 0) BZ.out (by simpa using row_range B0)
      have R1 := Lib.hid r1
      have R2 := Lib.hid r2
      clear r1 r2 B0
      go_wp2_with (first
        | go_skip
        | ((with_reducible refine at_op 73 ?_); refine L_load 27 (.tmp 72) rfl (by kernel_rfl) _ _ rfl (nums .u32 b'.regs) R1.out Tryd.underlying27 rfl 32 info_r32' (by rw [nums_size]; exact BZ.out.lr) ?_)
        | ((with_reducible refine at_op 75 ?_); refine L_load 28 (.tmp 74) rfl (by kernel_rfl) _ _ rfl (nums .u32 b'.csrs) R2.out Tryd.underlying28 rfl 5 info_r5 (by rw [nums_size]; exact BZ.out.lc) ?_)
        | fail)
      refine (SB.out _ _ 2 _ _ _ H.out rfl).mono ?_
      rintro e wb ⟨rfl, H', u⟩
      simp only [List.set_cons_succ, List.set_cons_zero, Nat.add_zero] at H'
      replace H := Lib.hid H'
      clear H' u R1 R2 cb2
      go_wp2_with (fail)
      go_roundg (2 - (1))
      case measure => omega
      case rel => exact ⟨1, by go_num, by omega, rfl, H⟩
    · have c0 : wr.cell? ⟨qs, 1, none⟩ = some (.pointer (some ⟨ta, 0, none⟩)) := cells_of (H.out.ok 0 _ rfl) 1
      have A0 := H.out.ok 4 _ rfl
      have B0 := H.out.ok 3 _ rfl
      have ca2 : wr.cell? ⟨q1, 2, none⟩ = some (.int .u32 (a'.pc : Int)) := by rw [cells_of A0]; rfl
      obtain ⟨r1, r2⟩ := AskS.regs_at (o := 0) AZ.out (by simpa using row_range A0)
      have R1 := Lib.hid r1
      have R2 := Lib.hid r2
      clear r1 r2 A0 B0
      go_wp2_with (first
        | go_skip
        | ((with_reducible refine at_op 64 ?_); refine L_load 27 (.tmp 63) rfl (by kernel_rfl) _ _ rfl (nums .u32 a'.regs) R1.out Tryd.underlying27 rfl 32 info_r32' (by rw [nums_size]; exact AZ.out.lr) ?_)
        | ((with_reducible refine at_op 66 ?_); refine L_load 28 (.tmp 65) rfl (by kernel_rfl) _ _ rfl (nums .u32 a'.csrs) R2.out Tryd.underlying28 rfl 5 info_r5 (by rw [nums_size]; exact AZ.out.lc) ?_)
        | fail)
      refine (SA.out _ _ 1 _ _ _ H.out rfl).mono ?_
      rintro e wa ⟨rfl, H', u⟩
      simp only [List.set_cons_succ, List.set_cons_zero] at H'
      replace H := Lib.hid H'
      clear H' u R1 R2 ca2 c0
      have B0 := H.out.ok 3 _ rfl
      have cb2 : wa.cell? ⟨q2, 2, none⟩ = some (.int .u32 (b'.pc : Int)) := by rw [cells_of B0]; rfl
      obtain ⟨r1, r2⟩ := AskS.regs_at (o := 0) BZ.out (by simpa using row_range B0)
      have R1 := Lib.hid r1
      have R2 := Lib.hid r2
      clear r1 r2 B0
      go_wp2_with (first
        | go_skip
        | ((with_reducible refine at_op 73 ?_); refine L_load 27 (.tmp 72) rfl (by kernel_rfl) _ _ rfl (nums .u32 b'.regs) R1.out Tryd.underlying27 rfl 32 info_r32' (by rw [nums_size]; exact BZ.out.lr) ?_)
        | ((with_reducible refine at_op 75 ?_); refine L_load 28 (.tmp 74) rfl (by kernel_rfl) _ _ rfl (nums .u32 b'.csrs) R2.out Tryd.underlying28 rfl 5 info_r5 (by rw [nums_size]; exact BZ.out.lc) ?_)
        | fail)
      refine (SB.out _ _ 1 _ _ _ H.out rfl).mono ?_
      rintro e wb ⟨rfl, H', u⟩
      simp only [List.set_cons_succ, List.set_cons_zero, Nat.add_zero] at H'
      replace H := Lib.hid H'
      clear H' u R1 R2 cb2
      go_wp2_with (fail)
      go_roundg (2 - (2))
      case measure => omega
      case rel => exact ⟨2, by go_num, by omega, rfl, H⟩
    · simp only [Nat.lt_irrefl, ↓reduceIte, show ¬ (2 < 1) by omega] at H
      clear SA SB
      go_wp2_with (fail)
      refine (FA.out _ _ 2 _ _ _ H.out rfl).mono ?_
      rintro e wf ⟨rfl, H', u⟩
      simp only [List.set_cons_succ, List.set_cons_zero] at H'
      replace H := Lib.hid H'
      clear H' u
      go_wp2_with (fail)
      refine (FA.out _ _ 1 _ _ _ H.out rfl).mono ?_
      rintro e wf ⟨rfl, H', u⟩
      simp only [List.set_cons_succ, List.set_cons_zero] at H'
      replace H := Lib.hid H'
      clear H' u
      go_wp2_with (fail)
      refine (FB.out _ _ 1 _ _ _ H.out rfl).mono ?_
      rintro e wf ⟨rfl, H', u⟩
      simp only [List.set_cons_succ, List.set_cons_zero] at H'
      replace H := Lib.hid H'
      clear H' u
      go_wp2_with (fail)
      clear FA FB
      refine (LA.out _ _ 2 _ _ _ H.out rfl).mono ?_
      rintro e wv ⟨rfl, H', u⟩
      simp only [List.set_cons_succ, List.set_cons_zero] at H'
      replace H := Lib.hid H'
      clear H' u LA
      go_wp2_with (first
        | go_skip
        | ((with_reducible refine at_st 18 ?_); refine L_store_row 27 (.tmp 18) (.tmp 99) rfl (by kernel_rfl) (wv).heap.size 0 rfl (nums .u32 (List.replicate 32 0)).toList 27 (heap_old (Go.heap_alloc_last wv _) _) (nums .u32 b'.regs) rfl 32 info_r32' (by rw [nums_size]; exact BZ.out.lr) (Nat.le_refl _) (nums_one _ _) ?_))
      intro wA b2 u2 z2
      rw [spl_all (by first | rfl | (simp only [Array.length_toList, nums_size, List.length_replicate]; exact BZ.out.lr))] at b2
      have A1 := Lib.hid b2
      have A2 : Hid (wA.heap[(wv).heap.size + 1]? = some (.cells (nums .u32 (List.replicate 5 0)).toList.toArray 28 (0, 0))) := Lib.hid (u2.keep (alloc_two wv _ _) (by simp))
      have V2 := Lib.hid ((((Upd.refl [] wv).alloc _).alloc _).then u2 (fun x hx hlt => by simp at hx; omega))
      clear b2 u2 z2
      go_wp2_with (first
        | go_skip
        | ((with_reducible refine at_st 19 ?_); refine L_store_row 28 (.tmp 19) (.tmp 100) rfl (by kernel_rfl) ((wv).heap.size + 1) 0 rfl (nums .u32 (List.replicate 5 0)).toList 28 A2.out (nums .u32 b'.csrs) rfl 5 info_r5 (by rw [nums_size]; exact BZ.out.lc) (Nat.le_refl _) (nums_one _ _) ?_))
      intro wB b3 u3 z3
      rw [spl_all (by first | rfl | (simp only [Array.length_toList, nums_size, List.length_replicate]; exact BZ.out.lc))] at b3
      have A3 := Lib.hid b3
      have A4 := Lib.hid (u3.keep A1.out (by simp))
      have V3 := Lib.hid (V2.out.then u3 (fun x hx hlt => by simp at hx; omega))
      have hA3 := lt_of_block A3.out
      clear b3 u3 z3 A1 A2 V2
      replace H := Lib.hid (H.out.add V3.out (blk2 (wv).heap.size (nums .u32 b'.regs).toList 27 ((wv).heap.size + 1) (nums .u32 b'.csrs).toList 28) ⟨A4.out, A3.out⟩ (by simp [blk2]) (fun x hx => by simp [blk2] at hx; omega))
      clear A3 A4 V3 hA3
      generalize wv.heap.size = p1 at H ⊢
      have eb1 := eq_rows 27 32 Tryd.underlying27 b'.regs b'.regs BZ.out.lr BZ.out.lr
      have eb2 := eq_rows 28 5 Tryd.underlying28 b'.csrs b'.csrs BZ.out.lc BZ.out.lc
      rw [decide_eq_true rfl] at eb1 eb2
      have eb1 := Lib.hid eb1
      have eb2 := Lib.hid eb2
      go_upto_region 16 with (fail)
      generalize wB = wC at H ⊢
      rcases O2.out with rfl | rfl | rfl
      · go_wp2_with (fail)
        refine (LB.out _ _ 2 _ _ _ H.out rfl).mono ?_
        rintro e wv ⟨rfl, H', u⟩
        simp only [List.set_cons_succ, List.set_cons_zero] at H'
        replace H := Lib.hid H'
        clear H' u LB
        go_wp2_with (first
          | go_skip
          | ((with_reducible refine at_st 23 ?_); refine L_store_row 27 (.tmp 23) (.tmp 107) rfl (by kernel_rfl) (wv).heap.size 0 rfl (nums .u32 (List.replicate 32 0)).toList 27 (heap_old (Go.heap_alloc_last wv _) _) (nums .u32 b'.regs) rfl 32 info_r32' (by rw [nums_size]; exact BZ.out.lr) (Nat.le_refl _) (nums_one _ _) ?_))
        intro wA b2 u2 z2
        rw [spl_all (by first | rfl | (simp only [Array.length_toList, nums_size, List.length_replicate]; exact BZ.out.lr))] at b2
        have A1 := Lib.hid b2
        have A2 : Hid (wA.heap[(wv).heap.size + 1]? = some (.cells (nums .u32 (List.replicate 5 0)).toList.toArray 28 (0, 0))) := Lib.hid (u2.keep (alloc_two wv _ _) (by simp))
        have V2 := Lib.hid ((((Upd.refl [] wv).alloc _).alloc _).then u2 (fun x hx hlt => by simp at hx; omega))
        clear b2 u2 z2
        go_wp2_with (first
          | go_skip
          | ((with_reducible refine at_st 24 ?_); refine L_store_row 28 (.tmp 24) (.tmp 108) rfl (by kernel_rfl) ((wv).heap.size + 1) 0 rfl (nums .u32 (List.replicate 5 0)).toList 28 A2.out (nums .u32 b'.csrs) rfl 5 info_r5 (by rw [nums_size]; exact BZ.out.lc) (Nat.le_refl _) (nums_one _ _) ?_))
        intro wB b3 u3 z3
        rw [spl_all (by first | rfl | (simp only [Array.length_toList, nums_size, List.length_replicate]; exact BZ.out.lc))] at b3
        have A3 := Lib.hid b3
        have A4 := Lib.hid (u3.keep A1.out (by simp))
        have V3 := Lib.hid (V2.out.then u3 (fun x hx hlt => by simp at hx; omega))
        have hA3 := lt_of_block A3.out
        clear b3 u3 z3 A1 A2 V2
        replace H := Lib.hid (H.out.add V3.out (blk2 (wv).heap.size (nums .u32 b'.regs).toList 27 ((wv).heap.size + 1) (nums .u32 b'.csrs).toList 28) ⟨A4.out, A3.out⟩ (by simp [blk2]) (fun x hx => by simp [blk2] at hx; omega))
        clear A3 A4 V3 hA3
        generalize wv.heap.size = p2 at H ⊢
        have G2 := Lib.hid (H.out.ok 0 _ rfl)
        have G1 := Lib.hid (H.out.ok 1 _ rfl)
        have A0 : wB.heap[q1]? = some (.cells a'.cells.toArray 30 (0, 0)) := H.out.ok 6 _ rfl
        have B0 : wB.heap[q2]? = some (.cells b'.cells.toArray 30 (0, 0)) := H.out.ok 5 _ rfl
        have ca2 : wB.cell? ⟨q1, 2, none⟩ = some (.int .u32 (a'.pc : Int)) := by rw [cells_of A0]; rfl
        have cb2 : wB.cell? ⟨q2, 2, none⟩ = some (.int .u32 (b'.pc : Int)) := by rw [cells_of B0]; rfl
        have RA := Lib.hid (AskS.regs_at (o := 0) AZ.out (by simpa using row_range A0))
        have RB := Lib.hid (AskS.regs_at (o := 0) BZ.out (by simpa using row_range B0))
        clear A0 B0
        have eb1 := eb1.out
        have eb2 := eb2.out
        go_upto_region 19 with (first
          | go_skip
          | ((with_reducible refine at_op 119 ?_); refine L_load 27 (.tmp 18) rfl (by kernel_rfl) _ _ rfl (nums .u32 b'.regs) (row_range G1.out.1) Tryd.underlying27 rfl 32 info_r32' (by rw [nums_size]; exact BZ.out.lr) ?_)
          | ((with_reducible refine at_op 121 ?_); refine L_load 27 (.tmp 120) rfl (by kernel_rfl) _ _ rfl (nums .u32 b'.regs) RB.out.1 Tryd.underlying27 rfl 32 info_r32' (by rw [nums_size]; exact BZ.out.lr) ?_)
          | ((with_reducible refine at_op 125 ?_); refine L_load 28 (.tmp 19) rfl (by kernel_rfl) _ _ rfl (nums .u32 b'.csrs) (row_range G1.out.2) Tryd.underlying28 rfl 5 info_r5 (by rw [nums_size]; exact BZ.out.lc) ?_)
          | ((with_reducible refine at_op 127 ?_); refine L_load 28 (.tmp 126) rfl (by kernel_rfl) _ _ rfl (nums .u32 b'.csrs) RB.out.2 Tryd.underlying28 rfl 5 info_r5 (by rw [nums_size]; exact BZ.out.lc) ?_)
          | ((with_reducible refine at_op 143 ?_); refine L_load 27 (.tmp 23) rfl (by kernel_rfl) _ _ rfl (nums .u32 b'.regs) (row_range G2.out.1) Tryd.underlying27 rfl 32 info_r32' (by rw [nums_size]; exact BZ.out.lr) ?_)
          | ((with_reducible refine at_op 145 ?_); refine L_load 27 (.tmp 144) rfl (by kernel_rfl) _ _ rfl (nums .u32 b'.regs) RB.out.1 Tryd.underlying27 rfl 32 info_r32' (by rw [nums_size]; exact BZ.out.lr) ?_)
          | ((with_reducible refine at_op 149 ?_); refine L_load 28 (.tmp 24) rfl (by kernel_rfl) _ _ rfl (nums .u32 b'.csrs) (row_range G2.out.2) Tryd.underlying28 rfl 5 info_r5 (by rw [nums_size]; exact BZ.out.lc) ?_)
          | ((with_reducible refine at_op 151 ?_); refine L_load 28 (.tmp 150) rfl (by kernel_rfl) _ _ rfl (nums .u32 b'.csrs) RB.out.2 Tryd.underlying28 rfl 5 info_r5 (by rw [nums_size]; exact BZ.out.lc) ?_)
          | fail)
        have ea1 := Lib.hid (eq_rows 27 32 Tryd.underlying27 b'.regs a'.regs BZ.out.lr AZ.out.lr)
        have ea2 := Lib.hid (eq_rows 28 5 Tryd.underlying28 b'.csrs a'.csrs BZ.out.lc AZ.out.lc)
        clear eb1 eb2
        go_cut [29] (fun v29 wc => (∃ B : Bool, v29 = .bool B) ∧ Hid (wc = wB))
        case first =>
          have ea1 := ea1.out
          have ea2 := ea2.out
          obtain ⟨D1, hD1⟩ : ∃ D : Bool, ((b'.pc : Int) == (a'.pc : Int)) = D := ⟨_, rfl⟩
          obtain ⟨D4, hD4⟩ : ∃ D : Bool, ((m : Int) == (n : Int)) = D := ⟨_, rfl⟩
          obtain ⟨D2, hD2⟩ : ∃ D : Bool, decide (b'.regs = a'.regs) = D := ⟨_, rfl⟩
          obtain ⟨D3, hD3⟩ : ∃ D : Bool, decide (b'.csrs = a'.csrs) = D := ⟨_, rfl⟩
          rw [hD2] at ea1
          rw [hD3] at ea2
          clear hD2 hD3
          cases D1 <;> cases D2 <;> cases D3 <;> cases D4
          all_goals
            go_wp2_with (first
              | go_skip
              | ((with_reducible refine at_op 167 ?_); refine L_load 27 (.tmp 23) rfl (by kernel_rfl) _ _ rfl (nums .u32 b'.regs) (row_range G2.out.1) Tryd.underlying27 rfl 32 info_r32' (by rw [nums_size]; exact BZ.out.lr) ?_)
              | ((with_reducible refine at_op 169 ?_); refine L_load 27 (.tmp 168) rfl (by kernel_rfl) _ _ rfl (nums .u32 a'.regs) RA.out.1 Tryd.underlying27 rfl 32 info_r32' (by rw [nums_size]; exact AZ.out.lr) ?_)
              | ((with_reducible refine at_op 173 ?_); refine L_load 28 (.tmp 24) rfl (by kernel_rfl) _ _ rfl (nums .u32 b'.csrs) (row_range G2.out.2) Tryd.underlying28 rfl 5 info_r5 (by rw [nums_size]; exact BZ.out.lc) ?_)
              | ((with_reducible refine at_op 175 ?_); refine L_load 28 (.tmp 174) rfl (by kernel_rfl) _ _ rfl (nums .u32 a'.csrs) RA.out.2 Tryd.underlying28 rfl 5 info_r5 (by rw [nums_size]; exact AZ.out.lc) ?_)
              | fail)
            go_meet
            case rel => exact ⟨⟨_, rfl⟩, Lib.hid rfl⟩
        case rest =>
          obtain ⟨⟨B, rfl⟩, hw⟩ := hcut
          obtain rfl := hw.out
          clear hw ea1 ea2 ca2 cb2
          have K1 := Lib.hid (K.out _ H.out.tz)
          clear K
          go_wp2_with (fail)
          refine K1.out.mono ?_
          rintro e w9 ⟨rfl, hb⟩
          go_wp2_with (fail)
          go_ret
          exact ⟨rfl, (H.out.near (Upd.of_below hb)).below⟩
      · go_wp2_with (fail)
        refine (LB.out _ _ 2 _ _ _ H.out rfl).mono ?_
        rintro e wv ⟨rfl, H', u⟩
        simp only [List.set_cons_succ, List.set_cons_zero] at H'
        replace H := Lib.hid H'
        clear H' u LB
        go_wp2_with (first
          | go_skip
          | ((with_reducible refine at_st 23 ?_); refine L_store_row 27 (.tmp 23) (.tmp 107) rfl (by kernel_rfl) (wv).heap.size 0 rfl (nums .u32 (List.replicate 32 0)).toList 27 (heap_old (Go.heap_alloc_last wv _) _) (nums .u32 a'.regs) rfl 32 info_r32' (by rw [nums_size]; exact AZ.out.lr) (Nat.le_refl _) (nums_one _ _) ?_))
        intro wA b2 u2 z2
        rw [spl_all (by first | rfl | (simp only [Array.length_toList, nums_size, List.length_replicate]; exact AZ.out.lr))] at b2
        have A1 := Lib.hid b2
        have A2 : Hid (wA.heap[(wv).heap.size + 1]? = some (.cells (nums .u32 (List.replicate 5 0)).toList.toArray 28 (0, 0))) := Lib.hid (u2.keep (alloc_two wv _ _) (by simp))
        have V2 := Lib.hid ((((Upd.refl [] wv).alloc _).alloc _).then u2 (fun x hx hlt => by simp at hx; omega))
        clear b2 u2 z2
        go_wp2_with (first
          | go_skip
          | ((with_reducible refine at_st 24 ?_); refine L_store_row 28 (.tmp 24) (.tmp 108) rfl (by kernel_rfl) ((wv).heap.size + 1) 0 rfl (nums .u32 (List.replicate 5 0)).toList 28 A2.out (nums .u32 a'.csrs) rfl 5 info_r5 (by rw [nums_size]; exact AZ.out.lc) (Nat.le_refl _) (nums_one _ _) ?_))
        intro wB b3 u3 z3
        rw [spl_all (by first | rfl | (simp only [Array.length_toList, nums_size, List.length_replicate]; exact AZ.out.lc))] at b3
        have A3 := Lib.hid b3
        have A4 := Lib.hid (u3.keep A1.out (by simp))
        have V3 := Lib.hid (V2.out.then u3 (fun x hx hlt => by simp at hx; omega))
        have hA3 := lt_of_block A3.out
        clear b3 u3 z3 A1 A2 V2
        replace H := Lib.hid (H.out.add V3.out (blk2 (wv).heap.size (nums .u32 a'.regs).toList 27 ((wv).heap.size + 1) (nums .u32 a'.csrs).toList 28) ⟨A4.out, A3.out⟩ (by simp [blk2]) (fun x hx => by simp [blk2] at hx; omega))
        clear A3 A4 V3 hA3
        generalize wv.heap.size = p2 at H ⊢
        have G2 := Lib.hid (H.out.ok 0 _ rfl)
        have G1 := Lib.hid (H.out.ok 1 _ rfl)
        have A0 : wB.heap[q1]? = some (.cells a'.cells.toArray 30 (0, 0)) := H.out.ok 6 _ rfl
        have B0 : wB.heap[q2]? = some (.cells b'.cells.toArray 30 (0, 0)) := H.out.ok 5 _ rfl
        have ca2 : wB.cell? ⟨q1, 2, none⟩ = some (.int .u32 (a'.pc : Int)) := by rw [cells_of A0]; rfl
        have cb2 : wB.cell? ⟨q2, 2, none⟩ = some (.int .u32 (b'.pc : Int)) := by rw [cells_of B0]; rfl
        have RA := Lib.hid (AskS.regs_at (o := 0) AZ.out (by simpa using row_range A0))
        have RB := Lib.hid (AskS.regs_at (o := 0) BZ.out (by simpa using row_range B0))
        clear A0 B0
        have eb1 := eb1.out
        have eb2 := eb2.out
        go_upto_region 18 with (first
          | go_skip
          | ((with_reducible refine at_op 119 ?_); refine L_load 27 (.tmp 18) rfl (by kernel_rfl) _ _ rfl (nums .u32 b'.regs) (row_range G1.out.1) Tryd.underlying27 rfl 32 info_r32' (by rw [nums_size]; exact BZ.out.lr) ?_)
          | ((with_reducible refine at_op 121 ?_); refine L_load 27 (.tmp 120) rfl (by kernel_rfl) _ _ rfl (nums .u32 b'.regs) RB.out.1 Tryd.underlying27 rfl 32 info_r32' (by rw [nums_size]; exact BZ.out.lr) ?_)
          | ((with_reducible refine at_op 125 ?_); refine L_load 28 (.tmp 19) rfl (by kernel_rfl) _ _ rfl (nums .u32 b'.csrs) (row_range G1.out.2) Tryd.underlying28 rfl 5 info_r5 (by rw [nums_size]; exact BZ.out.lc) ?_)
          | ((with_reducible refine at_op 127 ?_); refine L_load 28 (.tmp 126) rfl (by kernel_rfl) _ _ rfl (nums .u32 b'.csrs) RB.out.2 Tryd.underlying28 rfl 5 info_r5 (by rw [nums_size]; exact BZ.out.lc) ?_)
          | fail)
        have ea1 := Lib.hid (eq_rows 27 32 Tryd.underlying27 a'.regs b'.regs AZ.out.lr BZ.out.lr)
        have ea2 := Lib.hid (eq_rows 28 5 Tryd.underlying28 a'.csrs b'.csrs AZ.out.lc BZ.out.lc)
        clear eb1 eb2
        go_cut [28] (fun v28 wc => (∃ B : Bool, v28 = .bool B) ∧ Hid (wc = wB))
        case first =>
          have ea1 := ea1.out
          have ea2 := ea2.out
          obtain ⟨D1, hD1⟩ : ∃ D : Bool, ((a'.pc : Int) == (b'.pc : Int)) = D := ⟨_, rfl⟩
          obtain ⟨D4, hD4⟩ : ∃ D : Bool, ((n : Int) == (m : Int)) = D := ⟨_, rfl⟩
          obtain ⟨D2, hD2⟩ : ∃ D : Bool, decide (a'.regs = b'.regs) = D := ⟨_, rfl⟩
          obtain ⟨D3, hD3⟩ : ∃ D : Bool, decide (a'.csrs = b'.csrs) = D := ⟨_, rfl⟩
          rw [hD2] at ea1
          rw [hD3] at ea2
          clear hD2 hD3
          cases D1 <;> cases D2 <;> cases D3 <;> cases D4
          all_goals
            go_wp2_with (first
              | go_skip
              | ((with_reducible refine at_op 143 ?_); refine L_load 27 (.tmp 23) rfl (by kernel_rfl) _ _ rfl (nums .u32 a'.regs) (row_range G2.out.1) Tryd.underlying27 rfl 32 info_r32' (by rw [nums_size]; exact AZ.out.lr) ?_)
              | ((with_reducible refine at_op 145 ?_); refine L_load 27 (.tmp 144) rfl (by kernel_rfl) _ _ rfl (nums .u32 b'.regs) RB.out.1 Tryd.underlying27 rfl 32 info_r32' (by rw [nums_size]; exact BZ.out.lr) ?_)
              | ((with_reducible refine at_op 149 ?_); refine L_load 28 (.tmp 24) rfl (by kernel_rfl) _ _ rfl (nums .u32 a'.csrs) (row_range G2.out.2) Tryd.underlying28 rfl 5 info_r5 (by rw [nums_size]; exact AZ.out.lc) ?_)
              | ((with_reducible refine at_op 151 ?_); refine L_load 28 (.tmp 150) rfl (by kernel_rfl) _ _ rfl (nums .u32 b'.csrs) RB.out.2 Tryd.underlying28 rfl 5 info_r5 (by rw [nums_size]; exact BZ.out.lc) ?_)
              | fail)
            go_meet
            case rel => exact ⟨⟨_, rfl⟩, Lib.hid rfl⟩
        case rest =>
          obtain ⟨⟨B, rfl⟩, hw⟩ := hcut
          obtain rfl := hw.out
          have ec1 := eq_rows 27 32 Tryd.underlying27 a'.regs a'.regs AZ.out.lr AZ.out.lr
          have ec2 := eq_rows 28 5 Tryd.underlying28 a'.csrs a'.csrs AZ.out.lc AZ.out.lc
          rw [decide_eq_true rfl] at ec1 ec2
          have K1 := Lib.hid (K.out _ H.out.tz)
          clear hw ea1 ea2 K
          cases B
          all_goals
            go_wp2_with (first
              | go_skip
              | ((with_reducible refine at_op 167 ?_); refine L_load 27 (.tmp 23) rfl (by kernel_rfl) _ _ rfl (nums .u32 a'.regs) (row_range G2.out.1) Tryd.underlying27 rfl 32 info_r32' (by rw [nums_size]; exact AZ.out.lr) ?_)
              | ((with_reducible refine at_op 169 ?_); refine L_load 27 (.tmp 168) rfl (by kernel_rfl) _ _ rfl (nums .u32 a'.regs) RA.out.1 Tryd.underlying27 rfl 32 info_r32' (by rw [nums_size]; exact AZ.out.lr) ?_)
              | ((with_reducible refine at_op 173 ?_); refine L_load 28 (.tmp 24) rfl (by kernel_rfl) _ _ rfl (nums .u32 a'.csrs) (row_range G2.out.2) Tryd.underlying28 rfl 5 info_r5 (by rw [nums_size]; exact AZ.out.lc) ?_)
              | ((with_reducible refine at_op 175 ?_); refine L_load 28 (.tmp 174) rfl (by kernel_rfl) _ _ rfl (nums .u32 a'.csrs) RA.out.2 Tryd.underlying28 rfl 5 info_r5 (by rw [nums_size]; exact AZ.out.lc) ?_)
              | fail)
            refine K1.out.mono ?_
            rintro e w9 ⟨rfl, hb⟩
            go_wp2_with (fail)
            go_ret
            exact ⟨rfl, (H.out.near (Upd.of_below hb)).below⟩
      · unfold zeroV at LB
        go_wp2_with (fail)
        refine (LB.out _ _ 2 _ _ _ H.out rfl).mono ?_
        rintro e wv ⟨rfl, H', u⟩
        simp only [List.set_cons_succ, List.set_cons_zero] at H'
        replace H := Lib.hid H'
        clear H' u LB
        go_wp2_with (first
          | go_skip
          | ((with_reducible refine at_st 23 ?_); refine L_store_row 27 (.tmp 23) (.tmp 107) rfl (by kernel_rfl) (wv).heap.size 0 rfl (nums .u32 (List.replicate 32 0)).toList 27 (heap_old (Go.heap_alloc_last wv _) _) (nums .u32 (List.replicate 32 0)) rfl 32 info_r32' (by rw [nums_size]; exact rfl) (Nat.le_refl _) (nums_one _ _) ?_))
        intro wA b2 u2 z2
        rw [spl_all (by first | rfl | (simp only [Array.length_toList, nums_size, List.length_replicate]; exact rfl))] at b2
        have A1 := Lib.hid b2
        have A2 : Hid (wA.heap[(wv).heap.size + 1]? = some (.cells (nums .u32 (List.replicate 5 0)).toList.toArray 28 (0, 0))) := Lib.hid (u2.keep (alloc_two wv _ _) (by simp))
        have V2 := Lib.hid ((((Upd.refl [] wv).alloc _).alloc _).then u2 (fun x hx hlt => by simp at hx; omega))
        clear b2 u2 z2
        go_wp2_with (first
          | go_skip
          | ((with_reducible refine at_st 24 ?_); refine L_store_row 28 (.tmp 24) (.tmp 108) rfl (by kernel_rfl) ((wv).heap.size + 1) 0 rfl (nums .u32 (List.replicate 5 0)).toList 28 A2.out (nums .u32 (List.replicate 5 0)) rfl 5 info_r5 (by rw [nums_size]; exact rfl) (Nat.le_refl _) (nums_one _ _) ?_))
        intro wB b3 u3 z3
        rw [spl_all (by first | rfl | (simp only [Array.length_toList, nums_size, List.length_replicate]; exact rfl))] at b3
        have A3 := Lib.hid b3
        have A4 := Lib.hid (u3.keep A1.out (by simp))
        have V3 := Lib.hid (V2.out.then u3 (fun x hx hlt => by simp at hx; omega))
        have hA3 := lt_of_block A3.out
        clear b3 u3 z3 A1 A2 V2
        replace H := Lib.hid (H.out.add V3.out (blk2 (wv).heap.size (nums .u32 (List.replicate 32 0)).toList 27 ((wv).heap.size + 1) (nums .u32 (List.replicate 5 0)).toList 28) ⟨A4.out, A3.out⟩ (by simp [blk2]) (fun x hx => by simp [blk2] at hx; omega))
        clear A3 A4 V3 hA3
        generalize wv.heap.size = p2 at H ⊢
        have G2 := Lib.hid (H.out.ok 0 _ rfl)
        have G1 := Lib.hid (H.out.ok 1 _ rfl)
        have A0 : wB.heap[q1]? = some (.cells a'.cells.toArray 30 (0, 0)) := H.out.ok 6 _ rfl
        have B0 : wB.heap[q2]? = some (.cells b'.cells.toArray 30 (0, 0)) := H.out.ok 5 _ rfl
        have ca2 : wB.cell? ⟨q1, 2, none⟩ = some (.int .u32 (a'.pc : Int)) := by rw [cells_of A0]; rfl
        have cb2 : wB.cell? ⟨q2, 2, none⟩ = some (.int .u32 (b'.pc : Int)) := by rw [cells_of B0]; rfl
        have RA := Lib.hid (AskS.regs_at (o := 0) AZ.out (by simpa using row_range A0))
        have RB := Lib.hid (AskS.regs_at (o := 0) BZ.out (by simpa using row_range B0))
        clear A0 B0
        have eb1 := eb1.out
        have eb2 := eb2.out
        have K1 := Lib.hid (K.out _ H.out.tz)
        clear K
        go_wp2_with (first
          | go_skip
          | ((with_reducible refine at_op 119 ?_); refine L_load 27 (.tmp 18) rfl (by kernel_rfl) _ _ rfl (nums .u32 b'.regs) (row_range G1.out.1) Tryd.underlying27 rfl 32 info_r32' (by rw [nums_size]; exact BZ.out.lr) ?_)
          | ((with_reducible refine at_op 121 ?_); refine L_load 27 (.tmp 120) rfl (by kernel_rfl) _ _ rfl (nums .u32 b'.regs) RB.out.1 Tryd.underlying27 rfl 32 info_r32' (by rw [nums_size]; exact BZ.out.lr) ?_)
          | ((with_reducible refine at_op 125 ?_); refine L_load 28 (.tmp 19) rfl (by kernel_rfl) _ _ rfl (nums .u32 b'.csrs) (row_range G1.out.2) Tryd.underlying28 rfl 5 info_r5 (by rw [nums_size]; exact BZ.out.lc) ?_)
          | ((with_reducible refine at_op 127 ?_); refine L_load 28 (.tmp 126) rfl (by kernel_rfl) _ _ rfl (nums .u32 b'.csrs) RB.out.2 Tryd.underlying28 rfl 5 info_r5 (by rw [nums_size]; exact BZ.out.lc) ?_)
          | fail)
        refine K1.out.mono ?_
        rintro e w9 ⟨rfl, hb⟩
        go_wp2_with (fail)
        go_ret
        exact ⟨rfl, (H.out.near (Upd.of_below hb)).below⟩
end Go.Proofs.YtfnemolaoijbhacDoor
