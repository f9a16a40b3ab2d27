/- The reference's machine: loads and stores. -/
import Derived.Test.YtggjmdgonjhioaaGreatQZ35
import Derived.Test.YtggjmdgonjhioaaGreatQZ06
namespace Go.Proofs.YtggjmdgonjhioaaGreat
open Go.RowKit Go.Dio
set_option linter.unusedSimpArgs false
set_option linter.unusedVariables false

def moveX (pc b : Nat) (csrs : List Nat) (i : InstV) (addr word : Nat) : MadeV :=
  if (accessP i.op addr).2 = true then trapP pc csrs (accessP i.op addr).1 addr
  else if i.op ≤ 15 then ⟨writeR pc i.rd (loadP i.op addr word), u32 ((pc : Int) + 4), csrs⟩
  else ⟨⟨pc, 0, 0, true, low2 addr, storeD i.op addr b, storeM i.op addr⟩, if addr = 268435460 then pc else u32 ((pc : Int) + 4), csrs⟩
theorem moveP_X (pc a b : Nat) (cs : List Nat) (i : InstV) (word : Nat) : moveP pc a b cs i word = moveX pc b cs i (u32 ((a : Int) + i.imm)) word := rfl
def finS (s : MSt) (x : MadeV) : MSt := if x.r.st = true then stS (applyM s x) x.r.addr.toNat x.r.data.toNat x.r.mask else applyM s x
def RfF (rb gb base : Nat) (tv : Value) (s' : MSt) (r : RetV) (w : World) (e : Ending) (w' : World) : Prop :=
  e = .returned (.agg (retL r).toArray) ∧ ∃ tv', RfAt rb gb base tv' s' w' ∧ Upd (rb :: gb :: tv.ownBlock.toList) w w' ∧ ∀ g, tv'.ownBlock = some g → tv.ownBlock = some g ∨ w.heap.size ≤ g
theorem RfR.fin {rb gb base : Nat} {tv : Value} {s : MSt} {x : MadeV} {w w' : World} {e : Ending} (h : RfR rb gb base tv (applyM s x) x.r w e w') (hs : x.r.st = false) : RfF rb gb base tv (finS s x) x.r w e w' := by
  obtain ⟨h1, h2, h3⟩ := h
  refine ⟨h1, tv, ?_, h3.mono (fun y hy _ => by simp at hy; simp [hy]), fun g hg => .inl hg⟩
  unfold finS
  rw [if_neg (by rw [hs]; decide)]
  exact h2
/-- The worlds near one in which the slice of memory is as it was. -/
def CelR (rb tq : Nat) (W : World) : Type := { w' : World // Upd [rb, tq] W w' ∧ w'.cell? ⟨rb, 38, none⟩ = W.cell? ⟨rb, 38, none⟩ }
instance (rb tq : Nat) (W : World) : Nonempty (CelR rb tq W) := ⟨⟨W, Upd.refl _ _, rfl⟩⟩
set_option maxRecDepth 20000 in
set_option maxHeartbeats 4000000 in
theorem raccess_bad (rb gb base : Nat) (tv : Value) (s : MSt) (zz : World) (M : RfAt rb gb base tv s zz) (hr : s.regs.length = 32) (hc : s.csrs.length = 5) (hp : s.pc < 2 ^ 32) (i : InstV) (addr n word : Nat) (ha : addr < 2 ^ 32) (hd : i.rd < 32) (ho : 11 ≤ i.op ∧ i.op ≤ 18) (hacc : (accessP i.op addr).2 = true) :
    Calls Tryz.prog 61 #[.pointer (some ⟨rb, 0, none⟩), .agg i.arr, .int .u32 (addr : Int), .int .u32 (n : Int)] zz fun e z' => RfR rb gb base tv (applyM s (moveX s.pc n s.csrs i addr word)) (moveX s.pc n s.csrs i addr word).r zz e z' := by
  have EX : Hid (moveX s.pc n s.csrs i addr word = trapP s.pc s.csrs (accessP i.op addr).1 addr) := Lib.hid (by unfold moveX; rw [if_pos hacc])
  have hcl := accessP_lt i.op addr
  obtain ⟨XX, hXX⟩ : ∃ XX, XX = moveX s.pc n s.csrs i addr word := ⟨_, rfl⟩
  rw [← hXX] at EX ⊢
  clear hXX
  obtain ⟨op, rd, r1, r2, imm⟩ := i
  dsimp only at hd ho hacc
  show Calls _ _ #[_, .agg #[.int .i64 (op : Int), .int .i64 (rd : Int), .int .i64 (r1 : Int), .int .i64 (r2 : Int), .int .i32 imm], _, _] _ _
  have hlt := lt_of_block M.cell
  have hgl := lt_of_block M.mem
  have hne := M.ne
  have htop := M.top
  have hown : ∀ g, tv.ownBlock = some g → base ≤ g ∧ g < zz.heap.size := fun g hg => World.ownsRow.lt M.own g hg
  have R0 := Lib.hid (hl2 zz (.cells (InstV.arr ⟨op, rd, r1, r2, imm⟩) 50) (.cells (retL ⟨0, 0, 0, false, 0, 0, 0⟩).toArray 38))
  have I0 := Lib.hid (heap_old (hl1 zz (.cells (InstV.arr ⟨op, rd, r1, r2, imm⟩) 50)) (.cells (retL ⟨0, 0, 0, false, 0, 0, 0⟩).toArray 38))
  have U0 := Lib.hid (((Upd.refl [] zz).alloc (.cells (InstV.arr ⟨op, rd, r1, r2, imm⟩) 50)).alloc (.cells (retL ⟨0, 0, 0, false, 0, 0, 0⟩).toArray 38))
  have M0 := Lib.hid (M.upd0 U0.out)
  clear M
  have v6 := wrap_u32 ((s.pc : Int) + 4)
  have v7 := mod_u32 ((s.pc : Int) + 4)
  generalize hn4 : u32 ((s.pc : Int) + 4) = n4 at *
  have N4 := Lib.hid hn4
  clear hn4
  have X := Lib.hid (fun z => r7access_calls op addr z (by omega) ha)
  rw [hacc] at X
  dsimp only at hcl EX
  generalize (accessP op addr).1 = cause at *
  go_enter Tryz.func61, Tryz.ntmps61
  go_upto_region 1 with (fail)
  generalize hW : World.alloc (World.alloc zz _) _ = W
  have hW2 : (zz.alloc (.cells (InstV.arr ⟨op, rd, r1, r2, imm⟩) 50)).alloc (.cells (retL ⟨0, 0, 0, false, 0, 0, 0⟩).toArray 38) = W := hW
  rw [hW2] at R0 U0 M0 I0
  clear hW hW2
  have hWz : zz.heap.size + 1 < W.heap.size := lt_of_block R0.out
  have c0 : W.cell? ⟨rb, 0, none⟩ = some (.int .u32 (s.pc : Int)) := by rw [M0.out.cAt 0]; rfl
  have i0 : W.cell? ⟨zz.heap.size, 0, none⟩ = some (.int .i64 (op : Int)) := by rw [cells_of I0.out]; rfl
  go_wp2_with (fail)
  refine (X.out _).mono ?_
  rintro e z1 ⟨rfl, rfl⟩
  go_wp2_with (fail)
  refine (rtrap_calls rb gb base tv s _ M0.out hr hc s.pc cause addr hp hcl ha).mono ?_
  rintro e w3 ⟨rfl, m3, u3⟩
  have M3 := Lib.hid m3
  have R3 := Lib.hid (u3.keep R0.out (by simp; omega))
  have V3 := Lib.hid ((U0.out.mono (T := [rb]) (by simp)).trans u3)
  clear m3 u3 M0 R0 U0 I0 i0 c0
  go_wp2_with (first
    | go_skip
    | ((with_reducible refine at_st 8 ?_); refine L_store_row 38 (.tmp 8) (.tmp 32) rfl (by kernel_rfl) (zz.heap.size + 1) 0 rfl (retL ⟨0, 0, 0, false, 0, 0, 0⟩) 38 R3.out (retL (pcR s.pc)).toArray rfl 7 info_ret rfl (by decide) (retL_one _) ?_))
  intro wA bA uA zA
  rw [spl_all (by rfl)] at bA
  go_wp2_with (fail)
  refine bodyPost_ret (results_cell_row rfl _ _ (zz.heap.size + 1) 38 (retL (pcR s.pc)).toArray _ _ rfl bA Tryz.underlying38 rfl info_ret) rfl ⟨by rw [EX.out]; rfl, ?_⟩
  rw [EX.out]
  exact ⟨M3.out.upd uA (by simp; omega) (by simp; omega) (fun g hg => by have := hown g hg; simp; omega), V3.out.then uA (fun x hx hlt => by simp at hx; omega)⟩
set_option maxRecDepth 20000 in
set_option maxHeartbeats 8000000 in
theorem raccess_load (rb gb base : Nat) (tv : Value) (s : MSt) (zz : World) (M : RfAt rb gb base tv s zz) (hr : s.regs.length = 32) (hc : s.csrs.length = 5) (hml : s.mem.length = 1024) (hmb : ∀ x ∈ s.mem, x < 2 ^ 32) (hp : s.pc < 2 ^ 32) (i : InstV) (addr n : Nat) (ha : addr < 2 ^ 32) (hd : i.rd < 32) (ho : 11 ≤ i.op ∧ i.op ≤ 15) (hacc : (accessP i.op addr).2 = false) :
    Calls Tryz.prog 61 #[.pointer (some ⟨rb, 0, none⟩), .agg i.arr, .int .u32 (addr : Int), .int .u32 (n : Int)] zz fun e z' => RfR rb gb base tv (applyM s (moveX s.pc n s.csrs i addr (nth s.mem (addr / 4)))) (moveX s.pc n s.csrs i addr (nth s.mem (addr / 4))).r zz e z' := by
  have EX : Hid (moveX s.pc n s.csrs i addr (nth s.mem (addr / 4)) = ⟨writeR s.pc i.rd (loadP i.op addr (nth s.mem (addr / 4))), u32 ((s.pc : Int) + 4), s.csrs⟩) := Lib.hid (by unfold moveX; rw [if_neg (by rw [hacc]; decide), if_pos ho.2])
  have hin := access_in hacc ho.1 ho.2
  have hf := access_ok hacc ⟨ho.1, by omega⟩
  obtain ⟨XX, hXX⟩ : ∃ XX, XX = moveX s.pc n s.csrs i addr (nth s.mem (addr / 4)) := ⟨_, rfl⟩
  rw [← hXX] at EX ⊢
  clear hXX
  obtain ⟨op, rd, r1, r2, imm⟩ := i
  dsimp only at hd ho hacc
  show Calls _ _ #[_, .agg #[.int .i64 (op : Int), .int .i64 (rd : Int), .int .i64 (r1 : Int), .int .i64 (r2 : Int), .int .i32 imm], _, _] _ _
  have hlt := lt_of_block M.cell
  have hgl := lt_of_block M.mem
  have hne := M.ne
  have htop := M.top
  have hown : ∀ g, tv.ownBlock = some g → base ≤ g ∧ g < zz.heap.size := fun g hg => World.ownsRow.lt M.own g hg
  have R0 := Lib.hid (hl2 zz (.cells (InstV.arr ⟨op, rd, r1, r2, imm⟩) 50) (.cells (retL ⟨0, 0, 0, false, 0, 0, 0⟩).toArray 38))
  have I0 := Lib.hid (heap_old (hl1 zz (.cells (InstV.arr ⟨op, rd, r1, r2, imm⟩) 50)) (.cells (retL ⟨0, 0, 0, false, 0, 0, 0⟩).toArray 38))
  have U0 := Lib.hid (((Upd.refl [] zz).alloc (.cells (InstV.arr ⟨op, rd, r1, r2, imm⟩) 50)).alloc (.cells (retL ⟨0, 0, 0, false, 0, 0, 0⟩).toArray 38))
  have M0 := Lib.hid (M.upd0 U0.out)
  clear M
  have v6 := wrap_u32 ((s.pc : Int) + 4)
  have v7 := mod_u32 ((s.pc : Int) + 4)
  generalize hn4 : u32 ((s.pc : Int) + 4) = n4 at *
  have N4 := Lib.hid hn4
  clear hn4
  have X := Lib.hid (fun z => r7access_calls op addr z (by omega) ha)
  rw [hacc] at X
  dsimp only at hf EX hin
  have hwl : nth s.mem (addr / 4) < 2 ^ 32 := nthB2 hmb (by decide) _
  have LD := Lib.hid (fun z => r7load_calls op addr (nth s.mem (addr / 4)) z ho ha hwl hf)
  have q1 : (addr : Int) / 4 = ((addr / 4 : Nat) : Int) := by omega
  have q2 : (addr : Int).tdiv 4 = ((addr / 4 : Nat) : Int) := by rw [Int.tdiv_eq_ediv_of_nonneg (by omega)]; omega
  have hq : addr / 4 < 1024 := by omega
  have b1 : decide (((addr / 4 : Nat) : Int) < 1024) = true := decide_eq_true (by omega)
  have d16 : decide ((op : Int) < 16) = true := decide_eq_true (by omega)
  have d15 : decide ((op : Int) ≤ 15) = true := decide_eq_true (by omega)
  have hq2 : addr / 4 < s.mem.length := by omega
  obtain ⟨ld, hld⟩ : ∃ ld, ld = loadP op addr (nth s.mem (addr / 4)) := ⟨_, rfl⟩
  rw [← hld] at LD EX
  go_enter Tryz.func61, Tryz.ntmps61
  go_upto_region 1 with (fail)
  generalize hW : World.alloc (World.alloc zz _) _ = W
  have hW2 : (zz.alloc (.cells (InstV.arr ⟨op, rd, r1, r2, imm⟩) 50)).alloc (.cells (retL ⟨0, 0, 0, false, 0, 0, 0⟩).toArray 38) = W := hW
  rw [hW2] at R0 U0 M0 I0
  clear hW hW2
  have hWz : zz.heap.size + 1 < W.heap.size := lt_of_block R0.out
  have c0 : W.cell? ⟨rb, 0, none⟩ = some (.int .u32 (s.pc : Int)) := by rw [M0.out.cAt 0]; rfl
  have i0 : W.cell? ⟨zz.heap.size, 0, none⟩ = some (.int .i64 (op : Int)) := by rw [cells_of I0.out]; rfl
  go_wp2_with (fail)
  refine (X.out _).mono ?_
  rintro e z1 ⟨rfl, rfl⟩
  go_upto_region 6 with (fail)
  generalize hX1 : World.alloc z1 _ = W1
  have hX12 : z1.alloc (.cells (retL (pcR s.pc)).toArray 38) = W1 := hX1
  have Q1 := Lib.hid (hl1 z1 (.cells (retL (pcR s.pc)).toArray 38))
  have U1 := Lib.hid (U0.out.alloc (.cells (retL (pcR s.pc)).toArray 38))
  have M1 := Lib.hid (M0.out.upd0 ((Upd.refl [] z1).alloc (.cells (retL (pcR s.pc)).toArray 38)))
  have R1 := Lib.hid (heap_old R0.out (.cells (retL (pcR s.pc)).toArray 38))
  have I1 := Lib.hid (heap_old I0.out (.cells (retL (pcR s.pc)).toArray 38))
  rw [hX12] at Q1 U1 M1 R1 I1
  clear hX1 hX12 M0 R0 I0 U0 i0 c0
  generalize z1.heap.size = tq at *
  go_wp2_with (first
    | go_skip
    | ((with_reducible refine at_st 40 ?_); refine L_store_int 36 (.tmp 40) (.tmp 37) rfl (by kernel_rfl) rb 0 rfl (mcells s gb tv) 65 M1.out.cell .u32 (n4 : Int) rfl info_u1 (by rw [mcells_len s gb tv hr hc]; decide) ?_))
  intro w2 b2 u2 z2
  rw [mset_pc] at b2
  have M2 : Hid (RfAt rb gb base tv { s with pc := n4 } w2) := Lib.hid (M1.out.set u2 b2 rfl rfl)
  have R2 := Lib.hid (u2.keep R1.out (by simp; omega))
  have I2 := Lib.hid (u2.keep I1.out (by simp; omega))
  have Q2 := Lib.hid (u2.keep Q1.out (by simp; omega))
  have V2 := Lib.hid ((U1.out.mono (T := [rb]) (by simp)).trans u2)
  clear b2 u2 z2 M1 R1 I1 Q1 U1
  have i0 : w2.cell? ⟨zz.heap.size, 0, none⟩ = some (.int .i64 (op : Int)) := by rw [cells_of I2.out]; rfl
  have cw : w2.cell? ⟨gb, addr / 4, none⟩ = some (.int .u32 ((nth s.mem (addr / 4) : Nat) : Int)) := by rw [cells_of M2.out.mem]; exact nums_nth .u32 s.mem _ hq2
  have n0 : ∀ x : CelR rb (zz.heap.size + 1) w2, x.1.cell? ⟨zz.heap.size, 0, none⟩ = some (.int .i64 (op : Int)) := fun x => by rw [cells_of (x.2.1.keep I2.out (by simp; omega))]; rfl
  have n1 : ∀ x : CelR rb (zz.heap.size + 1) w2, x.1.cell? ⟨zz.heap.size, 1, none⟩ = some (.int .i64 (rd : Int)) := fun x => by rw [cells_of (x.2.1.keep I2.out (by simp; omega))]; rfl
  have n38 : ∀ x : CelR rb (zz.heap.size + 1) w2, x.1.cell? ⟨rb, 38, none⟩ = some (.slice (some ⟨gb, 0, none⟩) 1024 1024) := fun x => by rw [x.2.2, M2.out.cAt 38, mc_tail { s with pc := n4 } gb tv 0 hr hc]; rfl
  have nw : ∀ x : CelR rb (zz.heap.size + 1) w2, x.1.cell? ⟨gb, addr / 4, none⟩ = some (.int .u32 ((nth s.mem (addr / 4) : Nat) : Int)) := fun x => by rw [cells_of (x.2.1.keep M2.out.mem (by simp; omega))]; exact nums_nth .u32 s.mem _ hq2
  obtain ⟨q, hq0⟩ : ∃ q, q = addr / 4 := ⟨_, rfl⟩
  obtain ⟨wd, hwd⟩ : ∃ wd, wd = nth s.mem (addr / 4) := ⟨_, rfl⟩
  rw [← hwd] at nw LD
  rw [← hq0] at nw q1 q2 b1
  clear hwd hq0 hld hq2 hq cw hwl
  go_wp2_with (fail)
  refine wp_region_plan (fun z => ∃ x : CelR rb (zz.heap.size + 1) w2, z = x.1) [([0, 1, 2, 3, 4, 5, 6, 7, 8, 9, 10, 11, 12, 13, 14, 15], 16), ([], 17), ([], 18)] [] (by kernel_rfl) (by kernel_rfl) (by kernel_rfl) (by kernel_rfl) (fun _ d _ _ _ h => by cases d <;> exact h) ⟨⟨w2.drew, (Upd.refl _ _).drew, rfl⟩, rfl⟩ ?_
  refine plan_next ?_
  simp only [opsAt, List.map_cons, List.map_nil, List.getElem?_toArray, List.getElem?_cons_zero, List.getElem?_cons_succ, Option.getD_some]
  go_simp
  repeat (first
    | go_big_quiet_step (fail)
    | (refine Q_load 38 (.tmp 12) rfl (by kernel_rfl) _ _ rfl (retL (pcR s.pc)).toArray (by rintro _ ⟨y, rfl⟩; exact row_allR (y.2.1.keep Q2.out (by simp; omega))) Tryz.underlying38 rfl 7 info_ret rfl ?_; go_simp))
  refine wpQuiet_nil ?_
  refine plan_one rfl ?_
  go_wp2_with fail
  refine (LD.out _).mono ?_
  rintro e z1 ⟨rfl, rfl⟩
  go_wp2_with fail
  refine plan_same ⟨⟨_, (Upd.refl _ _).drew, rfl⟩, rfl⟩ ?_
  refine plan_next ?_
  simp only [opsAt, List.map_cons, List.map_nil, List.getElem?_toArray, List.getElem?_cons_zero, List.getElem?_cons_succ, Option.getD_some]
  go_simp
  repeat (go_big_quiet_step (fail))
  refine wpQuiet_nil ?_
  refine plan_one rfl ?_
  go_wp2_with fail
  refine (rput_calls rb gb base tv { s with pc := n4 } _ (M2.out.upd0 (Upd.refl _ _).drew) hr hc s.pc rd ld hd).mono ?_
  rintro e w4 ⟨rfl, m4, u4⟩
  have M4 := Lib.hid m4
  have U4 := Lib.hid ((Upd.refl [rb] w2).drew.trans u4)
  have C4 : Hid (w4.cell? ⟨rb, 38, none⟩ = w2.cell? ⟨rb, 38, none⟩) := Lib.hid (by
    rw [m4.cAt 38, M2.out.cAt 38, mc_tail { s with pc := n4 } gb tv 0 hr hc]
    have h32 : (putS { s with pc := n4 } rd ld).regs.length = 32 := by unfold putS; show (if rd = 0 then s.regs else s.regs.set rd ld).length = 32; split; exact hr; rw [List.length_set]; exact hr
    exact mc_tail (putS { s with pc := n4 } rd ld) gb tv 0 h32 hc)
  have R4 := Lib.hid (U4.out.keep R2.out (by simp; omega))
  clear m4 u4
  go_wp2_with fail
  refine plan_same ⟨⟨_, U4.out.mono (fun x hx _ => by simp at hx; simp [hx]), C4.out⟩, rfl⟩ ?_
  refine plan_next ?_
  simp only [opsAt, List.map_cons, List.map_nil, List.getElem?_toArray, List.getElem?_cons_zero, List.getElem?_cons_succ, Option.getD_some]
  go_simp
  repeat (go_big_quiet_step (fail))
  refine wpQuiet_nil ?_
  refine plan_one rfl ?_
  refine L_store_row 38 (.tmp 8) (.tmp 61) rfl (by kernel_rfl) (zz.heap.size + 1) 0 rfl (retL ⟨0, 0, 0, false, 0, 0, 0⟩) 38 R4.out (retL (writeR s.pc rd ld)).toArray rfl 7 info_ret rfl (by decide) (retL_one _) ?_
  intro wA bA uA zA
  rw [spl_all (by rfl)] at bA
  have hl4 := lt_of_block M4.out.cell
  have C5 : Hid (wA.cell? ⟨rb, 38, none⟩ = w2.cell? ⟨rb, 38, none⟩) := Lib.hid ((World.cell?_of_block (w := w4) (uA.block rb hl4 (by simp; omega))).trans C4.out)
  have U5 : Hid (Upd [rb, zz.heap.size + 1] w2 wA) := Lib.hid ((U4.out.mono (fun x hx _ => by simp at hx; simp [hx])).trans (uA.mono (fun x hx _ => by simp at hx; simp [hx])))
  have BA := Lib.hid bA
  have M5 := Lib.hid (M4.out.upd uA (by simp; omega) (by simp; omega) (fun g hg => by have := hown g hg; simp; omega))
  have V5 := Lib.hid ((V2.out.trans U4.out).then uA (fun x hx hlt => by simp at hx; omega))
  clear bA uA zA hl4 C4 U4 R4 M4
  go_wp2_with fail
  refine plan_same ⟨⟨_, U5.out, C5.out⟩, rfl⟩ ?_
  refine plan_last ?_
  simp only [opsAt, List.map_cons, List.map_nil, List.getElem?_toArray, List.getElem?_cons_zero, List.getElem?_cons_succ, Option.getD_some]
  go_simp
  repeat (go_big_quiet_step (fail))
  refine wpQuiet_nil ?_
  unfold planEnd
  go_wp2_with (fail)
  refine bodyPost_ret (results_cell_row rfl _ _ (zz.heap.size + 1) 38 (retL (writeR s.pc rd ld)).toArray _ _ rfl BA.out Tryz.underlying38 rfl info_ret) rfl ⟨by rw [EX.out], ?_⟩
  rw [EX.out, applyM_write]
  exact ⟨M5.out, V5.out⟩
end Go.Proofs.YtggjmdgonjhioaaGreat
