/- The reference's machine: loads and stores. -/
import Derived.Test.YtmdjhahafjlebaaGreatDoorQD43
import Derived.Test.YtmdjhahafjlebaaGreatDoorQD02
namespace Go.Proofs.YtmdjhahafjlebaaGreatDoor
open Go.RowKit Go.Dio
set_option linter.unusedSimpArgs false
set_option linter.unusedVariables false

def moveX (pc b : Nat) (csrs : List Nat) (i : InstV) (addr word : Nat) : MadeV :=
  if (accessP i.op addr).2 = true then trapP pc csrs (accessP i.op addr).1 addr
  else if i.op ≤ 15 then ⟨writeR pc i.rd (loadP i.op addr word), u32 ((pc : Int) + 4), csrs⟩
  else ⟨⟨pc, 0, 0, true, low2 addr, storeD i.op addr b, storeM i.op addr⟩, if addr = 268435460 then pc else u32 ((pc : Int) + 4), csrs⟩
theorem moveP_X (pc a b : Nat) (cs : List Nat) (i : InstV) (word : Nat) : moveP pc a b cs i word = moveX pc b cs i (u32 ((a : Int) + i.imm)) word := rfl
def finS (s : MSt) (x : MadeV) : MSt := if x.r.st = true then stS (applyM s x) x.r.addr.toNat x.r.data.toNat x.r.mask else applyM s x
def RfF (rb gb base : Nat) (tv : Value) (s' : MSt) (r : RetV) (w : World) (e : Ending) (w' : World) : Prop :=
  e = .returned (.agg (retL r).toArray) ∧ ∃ tv', RfAt rb gb base tv' s' w' ∧ Upd (rb :: gb :: tv.ownBlock.toList) w w' ∧ ∀ g, tv'.ownBlock = some g → tv.ownBlock = some g ∨ w.heap.size ≤ g
theorem RfR.fin {rb gb base : Nat} {tv : Value} {s : MSt} {x : MadeV} {w w' : World} {e : Ending} (h : RfR rb gb base tv (applyM s x) x.r w e w') (hs : x.r.st = false) : RfF rb gb base tv (finS s x) x.r w e w' := by
  obtain ⟨h1, h2, h3⟩ := h
  refine ⟨h1, tv, ?_, h3.mono (fun y hy _ => by simp at hy; simp [hy]), fun g hg => .inl hg⟩
  unfold finS
  rw [if_neg (by rw [hs]; decide)]
  exact h2
/-- The worlds near one in which the slice of memory is as it was. -/
def CelR (rb tq : Nat) (W : World) : Type := { w' : World // Upd [rb, tq] W w' ∧ w'.cell? ⟨rb, 38, none⟩ = W.cell? ⟨rb, 38, none⟩ }
instance (rb tq : Nat) (W : World) : Nonempty (CelR rb tq W) := ⟨⟨W, Upd.refl _ _, rfl⟩⟩
set_option maxRecDepth 20000 in
set_option maxHeartbeats 4000000 in
theorem raccess_bad (rb gb base : Nat) (tv : Value) (s : MSt) (zz : World) (M : RfAt rb gb base tv s zz) (hr : s.regs.length = 32) (hc : s.csrs.length = 5) (hp : s.pc < 2 ^ 32) (i : InstV) (addr n word : Nat) (ha : addr < 2 ^ 32) (hd : i.rd < 32) (ho : 11 ≤ i.op ∧ i.op ≤ 18) (hacc : (accessP i.op addr).2 = true) :
    Calls Tryz.prog 97 #[.pointer (some ⟨rb, 0, none⟩), .agg i.arr, .int .u32 (addr : Int), .int .u32 (n : Int)] zz fun e z' => RfR rb gb base tv (applyM s (moveX s.pc n s.csrs i addr word)) (moveX s.pc n s.csrs i addr word).r zz e z' := by
  have EX : Hid (moveX s.pc n s.csrs i addr word = trapP s.pc s.csrs (accessP i.op addr).1 addr) := Lib.hid (by unfold moveX; rw [if_pos hacc])
  have hcl := accessP_lt i.op addr
  obtain ⟨XX, hXX⟩ : ∃ XX, XX = moveX s.pc n s.csrs i addr word := ⟨_, rfl⟩
  rw [← hXX] at EX ⊢
  clear hXX
  obtain ⟨op, rd, r1, r2, imm⟩ := i
  dsimp only at hd ho hacc
  show Calls _ _ #[_, .agg #[.int .i64 (op : Int), .int .i64 (rd : Int), .int .i64 (r1 : Int), .int .i64 (r2 : Int), .int .i32 imm], _, _] _ _
  have hlt := lt_of_block M.cell
  have hgl := lt_of_block M.mem
  have hne := M.ne
  have htop := M.top
  have hown : ∀ g, tv.ownBlock = some g → base ≤ g ∧ g < zz.heap.size := fun g hg => World.ownsRow.lt M.own g hg
  have R0 := Lib.hid (hl2 zz (.cells (InstV.arr ⟨op, rd, r1, r2, imm⟩) 69) (.cells (retL ⟨0, 0, 0, false, 0, 0, 0⟩).toArray 38))
  have I0 := Lib.hid (heap_old (hl1 zz (.cells (InstV.arr ⟨op, rd, r1, r2, imm⟩) 69)) (.cells (retL ⟨0, 0, 0, false, 0, 0, 0⟩).toArray 38))
  have U0 := Lib.hid (((Upd.refl [] zz).alloc (.cells (InstV.arr ⟨op, rd, r1, r2, imm⟩) 69)).alloc (.cells (retL ⟨0, 0, 0, false, 0, 0, 0⟩).toArray 38))
  have M0 := Lib.hid (M.upd0 U0.out)
  clear M
  have v6 := wrap_u32 ((s.pc : Int) + 4)
  have v7 := mod_u32 ((s.pc : Int) + 4)
  generalize hn4 : u32 ((s.pc : Int) + 4) = n4 at *
  have N4 := Lib.hid hn4
  clear hn4
  have X := Lib.hid (fun z => r7access_calls op addr z (by omega) ha)
  rw [hacc] at X
  dsimp only at hcl EX
  generalize (accessP op addr).1 = cause at *
  go_enter Tryz.func97, Tryz.ntmps97
  go_upto_region 1 with (fail)
  generalize hW : World.alloc (World.alloc zz _) _ = W
  have hW2 : (zz.alloc (.cells (InstV.arr ⟨op, rd, r1, r2, imm⟩) 69)).alloc (.cells (retL ⟨0, 0, 0, false, 0, 0, 0⟩).toArray 38) = W := hW
  rw [hW2] at R0 U0 M0 I0
  clear hW hW2
  have hWz : zz.heap.size + 1 < W.heap.size := lt_of_block R0.out
  have c0 : W.cell? ⟨rb, 0, none⟩ = some (.int .u32 (s.pc : Int)) := by rw [M0.out.cAt 0]; rfl
  have i0 : W.cell? ⟨zz.heap.size, 0, none⟩ = some (.int .i64 (op : Int)) := by rw [cells_of I0.out]; rfl
  go_wp2_with (fail)
  refine (X.out _).mono ?_
  rintro e z1 ⟨rfl, rfl⟩
  go_wp2_with (fail)
  refine (rtrap_calls rb gb base tv s _ M0.out hr hc s.pc cause addr hp hcl ha).mono ?_
  rintro e w3 ⟨rfl, m3, u3⟩
  have M3 := Lib.hid m3
  have R3 := Lib.hid (u3.keep R0.out (by simp; omega))
  have V3 := Lib.hid ((U0.out.mono (T := [rb]) (by simp)).trans u3)
  clear m3 u3 M0 R0 U0 I0 i0 c0
  go_wp2_with (first
    | go_skip
    | ((with_reducible refine at_st 8 ?_); refine L_store_row 38 (.tmp 8) (.tmp 32) rfl (by kernel_rfl) (zz.heap.size + 1) 0 rfl (retL ⟨0, 0, 0, false, 0, 0, 0⟩) 38 R3.out (retL (pcR s.pc)).toArray rfl 7 info_ret rfl (by decide) (retL_one _) ?_))
  intro wA bA uA zA
  rw [spl_all (by rfl)] at bA
  go_wp2_with (fail)
  refine bodyPost_ret (results_cell_row rfl _ _ (zz.heap.size + 1) 38 (retL (pcR s.pc)).toArray _ _ rfl bA Tryz.underlying38 rfl info_ret) rfl ⟨by rw [EX.out]; rfl, ?_⟩
  rw [EX.out]
  exact ⟨M3.out.upd uA (by simp; omega) (by simp; omega) (fun g hg => by have := hown g hg; simp; omega), V3.out.then uA (fun x hx hlt => by simp at hx; omega)⟩
set_option maxRecDepth 20000 in
set_option maxHeartbeats 8000000 in
theorem raccess_load (rb gb base : Nat) (tv : Value) (s : MSt) (zz : World) (M : RfAt rb gb base tv s zz) (hr : s.regs.length = 32) (hc : s.csrs.length = 5) (hml : s.mem.length = 1024) (hmb : ∀ x ∈ s.mem, x < 2 ^ 32) (hp : s.pc < 2 ^ 32) (i : InstV) (addr n : Nat) (ha : addr < 2 ^ 32) (hd : i.rd < 32) (ho : 11 ≤ i.op ∧ i.op ≤ 15) (hacc : (accessP i.op addr).2 = false) :
    Calls Tryz.prog 97 #[.pointer (some ⟨rb, 0, none⟩), .agg i.arr, .int .u32 (addr : Int), .int .u32 (n : Int)] zz fun e z' => RfR rb gb base tv (applyM s (moveX s.pc n s.csrs i addr (nth s.mem (addr / 4)))) (moveX s.pc n s.csrs i addr (nth s.mem (addr / 4))).r zz e z' := by
  have EX : Hid (moveX s.pc n s.csrs i addr (nth s.mem (addr / 4)) = ⟨writeR s.pc i.rd (loadP i.op addr (nth s.mem (addr / 4))), u32 ((s.pc : Int) + 4), s.csrs⟩) := Lib.hid (by unfold moveX; rw [if_neg (by rw [hacc]; decide), if_pos ho.2])
  have hin := access_in hacc ho.1 ho.2
  have hf := access_ok hacc ⟨ho.1, by omega⟩
  obtain ⟨XX, hXX⟩ : ∃ XX, XX = moveX s.pc n s.csrs i addr (nth s.mem (addr / 4)) := ⟨_, rfl⟩
  rw [← hXX] at EX ⊢
  clear hXX
  obtain ⟨op, rd, r1, r2, imm⟩ := i
  dsimp only at hd ho hacc
  show Calls _ _ #[_, .agg #[.int .i64 (op : Int), .int .i64 (rd : Int), .int .i64 (r1 : Int), .int .i64 (r2 : Int), .int .i32 imm], _, _] _ _
  have hlt := lt_of_block M.cell
  have hgl := lt_of_block M.mem
  have hne := M.ne
  have htop := M.top
  have hown : ∀ g, tv.ownBlock = some g → base ≤ g ∧ g < zz.heap.size := fun g hg => World.ownsRow.lt M.own g hg
  have R0 := Lib.hid (hl2 zz (.cells (InstV.arr ⟨op, rd, r1, r2, imm⟩) 69) (.cells (retL ⟨0, 0, 0, false, 0, 0, 0⟩).toArray 38))
  have I0 := Lib.hid (heap_old (hl1 zz (.cells (InstV.arr ⟨op, rd, r1, r2, imm⟩) 69)) (.cells (retL ⟨0, 0, 0, false, 0, 0, 0⟩).toArray 38))
  have U0 := Lib.hid (((Upd.refl [] zz).alloc (.cells (InstV.arr ⟨op, rd, r1, r2, imm⟩) 69)).alloc (.cells (retL ⟨0, 0, 0, false, 0, 0, 0⟩).toArray 38))
  have M0 := Lib.hid (M.upd0 U0.out)
  clear M
  have v6 := wrap_u32 ((s.pc : Int) + 4)
  have v7 := mod_u32 ((s.pc : Int) + 4)
  generalize hn4 : u32 ((s.pc : Int) + 4) = n4 at *
  have N4 := Lib.hid hn4
  clear hn4
  have X := Lib.hid (fun z => r7access_calls op addr z (by omega) ha)
  rw [hacc] at X
  dsimp only at hf EX hin
  have hwl : nth s.mem (addr / 4) < 2 ^ 32 := nthB2 hmb (by decide) _
  have LD := Lib.hid (fun z => r7load_calls op addr (nth s.mem (addr / 4)) z ho ha hwl hf)
  have q1 : (addr : Int) / 4 = ((addr / 4 : Nat) : Int) := by omega
  have q2 : (addr : Int).tdiv 4 = ((addr / 4 : Nat) : Int) := by rw [Int.tdiv_eq_ediv_of_nonneg (by omega)]; omega
  have hq : addr / 4 < 1024 := by omega
  have b1 : decide (((addr / 4 : Nat) : Int) < 1024) = true := decide_eq_true (by omega)
  have d16 : decide ((op : Int) < 16) = true := decide_eq_true (by omega)
  have d15 : decide ((op : Int) ≤ 15) = true := decide_eq_true (by omega)
  have hq2 : addr / 4 < s.mem.length := by omega
  obtain ⟨ld, hld⟩ : ∃ ld, ld = loadP op addr (nth s.mem (addr / 4)) := ⟨_, rfl⟩
  rw [← hld] at LD EX
  go_enter Tryz.func97, Tryz.ntmps97
  go_upto_region 1 with (fail)
  generalize hW : World.alloc (World.alloc zz _) _ = W
  have hW2 : (zz.alloc (.cells (InstV.arr ⟨op, rd, r1, r2, imm⟩) 69)).alloc (.cells (retL ⟨0, 0, 0, false, 0, 0, 0⟩).toArray 38) = W := hW
  rw [hW2] at R0 U0 M0 I0
  clear hW hW2
  have hWz : zz.heap.size + 1 < W.heap.size := lt_of_block R0.out
  have c0 : W.cell? ⟨rb, 0, none⟩ = some (.int .u32 (s.pc : Int)) := by rw [M0.out.cAt 0]; rfl
  have i0 : W.cell? ⟨zz.heap.size, 0, none⟩ = some (.int .i64 (op : Int)) := by rw [cells_of I0.out]; rfl
  go_wp2_with (fail)
  refine (X.out _).mono ?_
  rintro e z1 ⟨rfl, rfl⟩
  go_upto_region 6 with (fail)
  generalize hX1 : World.alloc z1 _ = W1
  have hX12 : z1.alloc (.cells (retL (pcR s.pc)).toArray 38) = W1 := hX1
  have Q1 := Lib.hid (hl1 z1 (.cells (retL (pcR s.pc)).toArray 38))
  have U1 := Lib.hid (U0.out.alloc (.cells (retL (pcR s.pc)).toArray 38))
  have M1 := Lib.hid (M0.out.upd0 ((Upd.refl [] z1).alloc (.cells (retL (pcR s.pc)).toArray 38)))
  have R1 := Lib.hid (heap_old R0.out (.cells (retL (pcR s.pc)).toArray 38))
  have I1 := Lib.hid (heap_old I0.out (.cells (retL (pcR s.pc)).toArray 38))
  rw [hX12] at Q1 U1 M1 R1 I1
  clear hX1 hX12 M0 R0 I0 U0 i0 c0
  generalize z1.heap.size = tq at *
  go_wp2_with (first
    | go_skip
    | ((with_reducible refine at_st 40 ?_); refine L_store_int 36 (.tmp 40) (.tmp 37) rfl (by kernel_rfl) rb 0 rfl (mcells s gb tv) 55 M1.out.cell .u32 (n4 : Int) rfl info_u1 (by rw [mcells_len s gb tv hr hc]; decide) ?_))
  intro w2 b2 u2 z2
  rw [mset_pc] at b2
  have M2 : Hid (RfAt rb gb base tv { s with pc := n4 } w2) := Lib.hid (M1.out.set u2 b2 rfl rfl)
  have R2 := Lib.hid (u2.keep R1.out (by simp; omega))
  have I2 := Lib.hid (u2.keep I1.out (by simp; omega))
  have Q2 := Lib.hid (u2.keep Q1.out (by simp; omega))
  have V2 := Lib.hid ((U1.out.mono (T := [rb]) (by simp)).trans u2)
  clear b2 u2 z2 M1 R1 I1 Q1 U1
  have i0 : w2.cell? ⟨zz.heap.size, 0, none⟩ = some (.int .i64 (op : Int)) := by rw [cells_of I2.out]; rfl
  have cw : w2.cell? ⟨gb, addr / 4, none⟩ = some (.int .u32 ((nth s.mem (addr / 4) : Nat) : Int)) := by rw [cells_of M2.out.mem]; exact nums_nth .u32 s.mem _ hq2
  have n0 : ∀ x : CelR rb (zz.heap.size + 1) w2, x.1.cell? ⟨zz.heap.size, 0, none⟩ = some (.int .i64 (op : Int)) := fun x => by rw [cells_of (x.2.1.keep I2.out (by simp; omega))]; rfl
  have n1 : ∀ x : CelR rb (zz.heap.size + 1) w2, x.1.cell? ⟨zz.heap.size, 1, none⟩ = some (.int .i64 (rd : Int)) := fun x => by rw [cells_of (x.2.1.keep I2.out (by simp; omega))]; rfl
  have n38 : ∀ x : CelR rb (zz.heap.size + 1) w2, x.1.cell? ⟨rb, 38, none⟩ = some (.slice (some ⟨gb, 0, none⟩) 1024 1024) := fun x => by rw [x.2.2, M2.out.cAt 38, mc_tail { s with pc := n4 } gb tv 0 hr hc]; rfl
  have nw : ∀ x : CelR rb (zz.heap.size + 1) w2, x.1.cell? ⟨gb, addr / 4, none⟩ = some (.int .u32 ((nth s.mem (addr / 4) : Nat) : Int)) := fun x => by rw [cells_of (x.2.1.keep M2.out.mem (by simp; omega))]; exact nums_nth .u32 s.mem _ hq2
  obtain ⟨q, hq0⟩ : ∃ q, q = addr / 4 := ⟨_, rfl⟩
  obtain ⟨wd, hwd⟩ : ∃ wd, wd = nth s.mem (addr / 4) := ⟨_, rfl⟩
  rw [← hwd] at nw LD
  rw [← hq0] at nw q1 q2 b1
  clear hwd hq0 hld hq2 hq cw hwl
  go_wp2_with (fail)
  refine wp_region_plan (fun z => ∃ x : CelR rb (zz.heap.size + 1) w2, z = x.1) [([0, 1, 2, 3, 4, 5, 6, 7, 8, 9, 10, 11, 12, 13, 14, 15], 16), ([], 17), ([], 18)] [] (by kernel_rfl) (by kernel_rfl) (by kernel_rfl) (by kernel_rfl) (fun _ d _ _ _ h => by cases d <;> exact h) ⟨⟨w2.drew, (Upd.refl _ _).drew, rfl⟩, rfl⟩ ?_
  refine plan_next ?_
  simp only [opsAt, List.map_cons, List.map_nil, List.getElem?_toArray, List.getElem?_cons_zero, List.getElem?_cons_succ, Option.getD_some]
  go_simp
  repeat (first
    | go_big_quiet_step (fail)
    | (refine Q_load 38 (.tmp 12) rfl (by kernel_rfl) _ _ rfl (retL (pcR s.pc)).toArray (by rintro _ ⟨y, rfl⟩; exact row_allR (y.2.1.keep Q2.out (by simp; omega))) Tryz.underlying38 rfl 7 info_ret rfl ?_; go_simp))
  refine wpQuiet_nil ?_
  refine plan_one rfl ?_
  go_wp2_with fail
  refine (LD.out _).mono ?_
  rintro e z1 ⟨rfl, rfl⟩
  go_wp2_with fail
  refine plan_same ⟨⟨_, (Upd.refl _ _).drew, rfl⟩, rfl⟩ ?_
  refine plan_next ?_
  simp only [opsAt, List.map_cons, List.map_nil, List.getElem?_toArray, List.getElem?_cons_zero, List.getElem?_cons_succ, Option.getD_some]
  go_simp
  repeat (go_big_quiet_step (fail))
  refine wpQuiet_nil ?_
  refine plan_one rfl ?_
  go_wp2_with fail
  refine (rput_calls rb gb base tv { s with pc := n4 } _ (M2.out.upd0 (Upd.refl _ _).drew) hr hc s.pc rd ld hd).mono ?_
  rintro e w4 ⟨rfl, m4, u4⟩
  have M4 := Lib.hid m4
  have U4 := Lib.hid ((Upd.refl [rb] w2).drew.trans u4)
  have C4 : Hid (w4.cell? ⟨rb, 38, none⟩ = w2.cell? ⟨rb, 38, none⟩) := Lib.hid (by
    rw [m4.cAt 38, M2.out.cAt 38, mc_tail { s with pc := n4 } gb tv 0 hr hc]
    have h32 : (putS { s with pc := n4 } rd ld).regs.length = 32 := by unfold putS; show (if rd = 0 then s.regs else s.regs.set rd ld).length = 32; split; exact hr; rw [List.length_set]; exact hr
    exact mc_tail (putS { s with pc := n4 } rd ld) gb tv 0 h32 hc)
  have R4 := Lib.hid (U4.out.keep R2.out (by simp; omega))
  clear m4 u4
  go_wp2_with fail
  refine plan_same ⟨⟨_, U4.out.mono (fun x hx _ => by simp at hx; simp [hx]), C4.out⟩, rfl⟩ ?_
  refine plan_next ?_
  simp only [opsAt, List.map_cons, List.map_nil, List.getElem?_toArray, List.getElem?_cons_zero, List.getElem?_cons_succ, Option.getD_some]
  go_simp
  repeat (go_big_quiet_step (fail))
  refine wpQuiet_nil ?_
  refine plan_one rfl ?_
  refine L_store_row 38 (.tmp 8) (.tmp 61) rfl (by kernel_rfl) (zz.heap.size + 1) 0 rfl (retL ⟨0, 0, 0, false, 0, 0, 0⟩) 38 R4.out (retL (writeR s.pc rd ld)).toArray rfl 7 info_ret rfl (by decide) (retL_one _) ?_
  intro wA bA uA zA
  rw [spl_all (by rfl)] at bA
  have hl4 := lt_of_block M4.out.cell
  have C5 : Hid (wA.cell? ⟨rb, 38, none⟩ = w2.cell? ⟨rb, 38, none⟩) := Lib.hid ((World.cell?_of_block (w := w4) (uA.block rb hl4 (by simp; omega))).trans C4.out)
  have U5 : Hid (Upd [rb, zz.heap.size + 1] w2 wA) := Lib.hid ((U4.out.mono (fun x hx _ => by simp at hx; simp [hx])).trans (uA.mono (fun x hx _ => by simp at hx; simp [hx])))
  have BA := Lib.hid bA
  have M5 := Lib.hid (M4.out.upd uA (by simp; omega) (by simp; omega) (fun g hg => by have := hown g hg; simp; omega))
  have V5 := Lib.hid ((V2.out.trans U4.out).then uA (fun x hx hlt => by simp at hx; omega))
  clear bA uA zA hl4 C4 U4 R4 M4
  go_wp2_with fail
  refine plan_same ⟨⟨_, U5.out, C5.out⟩, rfl⟩ ?_
  refine plan_last ?_
  simp only [opsAt, List.map_cons, List.map_nil, List.getElem?_toArray, List.getElem?_cons_zero, List.getElem?_cons_succ, Option.getD_some]
  go_simp
  repeat (go_big_quiet_step (fail))
  refine wpQuiet_nil ?_
  unfold planEnd
  go_wp2_with (fail)
  refine bodyPost_ret (results_cell_row rfl _ _ (zz.heap.size + 1) 38 (retL (writeR s.pc rd ld)).toArray _ _ rfl BA.out Tryz.underlying38 rfl info_ret) rfl ⟨by rw [EX.out], ?_⟩
  rw [EX.out, applyM_write]
  exact ⟨M5.out, V5.out⟩
end Go.Proofs.YtmdjhahafjlebaaGreatDoor

namespace Go.Proofs.YtmdjhahafjlebaaGreatDoor
open Go.RowKit Go.Dio
set_option linter.unusedSimpArgs false
set_option linter.unusedVariables false

theorem stS_fin (s : MSt) (X : MadeV) (pc nx al D K : Nat) (h : X = ⟨⟨(pc : Int), 0, 0, true, (al : Int), (D : Int), (K : Int)⟩, nx, s.csrs⟩) : finS s X = stS { s with pc := nx } al D (K : Int) := by
  rw [h]; rfl
set_option maxRecDepth 20000 in
set_option maxHeartbeats 8000000 in
theorem raccess_store (rb gb base : Nat) (tv : Value) (s : MSt) (zz : World) (M : RfAt rb gb base tv s zz) (hr : s.regs.length = 32) (hc : s.csrs.length = 5) (hml : s.mem.length = 1024) (hmb : ∀ x ∈ s.mem, x < 2 ^ 32) (hp : s.pc < 2 ^ 32) (hbz : base ≤ zz.heap.size) (htr : s.trace.length ≤ 4000) (i : InstV) (addr n word : Nat) (ha : addr < 2 ^ 32) (hn : n < 2 ^ 32) (hd : i.rd < 32) (ho : 16 ≤ i.op ∧ i.op ≤ 18) (hacc : (accessP i.op addr).2 = false) :
    Calls Tryz.prog 97 #[.pointer (some ⟨rb, 0, none⟩), .agg i.arr, .int .u32 (addr : Int), .int .u32 (n : Int)] zz fun e z' => RfF rb gb base tv (finS s (moveX s.pc n s.csrs i addr word)) (moveX s.pc n s.csrs i addr word).r zz e z' := by
  have EX0 : moveX s.pc n s.csrs i addr word = ⟨⟨s.pc, 0, 0, true, low2 addr, storeD i.op addr n, storeM i.op addr⟩, if addr = 268435460 then s.pc else u32 ((s.pc : Int) + 4), s.csrs⟩ := by unfold moveX; rw [if_neg (by rw [hacc]; decide), if_neg (by omega)]
  have hf := access_ok hacc ⟨by omega, ho.2⟩
  have hlow := access_low hacc ho.1 ho.2
  have hST := fun z => r7store_calls i.op addr n z ho ha hn hf
  have hDl : storeD i.op addr n < 2 ^ 32 := storeD_lt i.op addr n hn ho hf
  have hcase : addr = 268435456 ∨ addr = 268435460 ∨ addr < 4096 := by
    by_cases h18 : i.op = 18
    · have h4 : addr % 4 = 0 := fits4 (by rw [h18] at hf; exact hf) rfl
      unfold low2 at hlow; omega
    · by_cases hin : addr < 4096
      · exact .inr (.inr hin)
      · exfalso
        unfold accessP at hacc
        rw [if_neg (by rcases (by omega : i.op = 16 ∨ i.op = 17) with h | h <;> rw [h] <;> decide), if_neg (by rw [hf]; decide), if_neg (fun h => by rcases h with h | h; exact hin h; exact h18 h.1)] at hacc
        cases hacc
  obtain ⟨XX, hXX⟩ : ∃ XX, XX = moveX s.pc n s.csrs i addr word := ⟨_, rfl⟩
  rw [← hXX] at EX0 ⊢
  have EX := Lib.hid EX0
  clear hXX EX0 hlow
  obtain ⟨op, rd, r1, r2, imm⟩ := i
  dsimp only at hd ho hacc
  show Calls _ _ #[_, .agg #[.int .i64 (op : Int), .int .i64 (rd : Int), .int .i64 (r1 : Int), .int .i64 (r2 : Int), .int .i32 imm], _, _] _ _
  have hlt := lt_of_block M.cell
  have hgl := lt_of_block M.mem
  have hne := M.ne
  have htop := M.top
  have hown : ∀ g, tv.ownBlock = some g → base ≤ g ∧ g < zz.heap.size := fun g hg => World.ownsRow.lt M.own g hg
  have R0 := Lib.hid (hl2 zz (.cells (InstV.arr ⟨op, rd, r1, r2, imm⟩) 69) (.cells (retL ⟨0, 0, 0, false, 0, 0, 0⟩).toArray 38))
  have I0 := Lib.hid (heap_old (hl1 zz (.cells (InstV.arr ⟨op, rd, r1, r2, imm⟩) 69)) (.cells (retL ⟨0, 0, 0, false, 0, 0, 0⟩).toArray 38))
  have U0 := Lib.hid (((Upd.refl [] zz).alloc (.cells (InstV.arr ⟨op, rd, r1, r2, imm⟩) 69)).alloc (.cells (retL ⟨0, 0, 0, false, 0, 0, 0⟩).toArray 38))
  have M0 := Lib.hid (M.upd0 U0.out)
  clear M
  have v6 := wrap_u32 ((s.pc : Int) + 4)
  have v7 := mod_u32 ((s.pc : Int) + 4)
  generalize hn4 : u32 ((s.pc : Int) + 4) = n4 at *
  have N4 := Lib.hid hn4
  clear hn4
  have X := Lib.hid (fun z => r7access_calls op addr z (by omega) ha)
  rw [hacc] at X
  dsimp only at hf EX hDl hST
  have ST := Lib.hid hST
  have q3 := high2 addr ha
  have d16 : decide ((op : Int) < 16) = false := decide_eq_false (by omega)
  clear hST hf
  generalize storeD op addr n = D at *
  generalize storeM op addr = K at *
  rcases hcase with hca | hca | hin
  · have e1 : ((addr : Int) == 268435456) = true := (cast_eq_b hca).1
    rw [if_neg (by omega)] at EX
    have EF : Hid (finS s XX = { s with pc := n4, trace := s.trace ++ [D] }) := Lib.hid (by
      rw [stS_fin s XX s.pc n4 (low2 addr) D K EX.out]
      unfold stS
      rw [if_pos (by rw [hca]; rfl)])
    rw [show addr / 4 * 4 = low2 addr from rfl] at q3
    generalize low2 addr = al at *
    clear hca
    go_enter Tryz.func97, Tryz.ntmps97
    go_upto_region 1 with (fail)
    generalize hW : World.alloc (World.alloc zz _) _ = W
    have hW2 : (zz.alloc (.cells (InstV.arr ⟨op, rd, r1, r2, imm⟩) 69)).alloc (.cells (retL ⟨0, 0, 0, false, 0, 0, 0⟩).toArray 38) = W := hW
    rw [hW2] at R0 U0 M0 I0
    clear hW hW2
    have hWz : zz.heap.size + 1 < W.heap.size := lt_of_block R0.out
    have c0 : W.cell? ⟨rb, 0, none⟩ = some (.int .u32 (s.pc : Int)) := by rw [M0.out.cAt 0]; rfl
    have i0 : W.cell? ⟨zz.heap.size, 0, none⟩ = some (.int .i64 (op : Int)) := by rw [cells_of I0.out]; rfl
    go_wp2_with (fail)
    refine (X.out _).mono ?_
    rintro e z1 ⟨rfl, rfl⟩
    go_upto_region 6 with (fail)
    generalize hX1 : World.alloc z1 _ = W1
    have hX12 : z1.alloc (.cells (retL (pcR s.pc)).toArray 38) = W1 := hX1
    have Q1 := Lib.hid (hl1 z1 (.cells (retL (pcR s.pc)).toArray 38))
    have U1 := Lib.hid (U0.out.alloc (.cells (retL (pcR s.pc)).toArray 38))
    have M1 := Lib.hid (M0.out.upd0 ((Upd.refl [] z1).alloc (.cells (retL (pcR s.pc)).toArray 38)))
    have R1 := Lib.hid (heap_old R0.out (.cells (retL (pcR s.pc)).toArray 38))
    have I1 := Lib.hid (heap_old I0.out (.cells (retL (pcR s.pc)).toArray 38))
    rw [hX12] at Q1 U1 M1 R1 I1
    clear hX1 hX12 M0 R0 I0 U0 i0 c0
    generalize z1.heap.size = tq at *
    go_wp2_with (first
      | go_skip
      | ((with_reducible refine at_st 40 ?_); refine L_store_int 36 (.tmp 40) (.tmp 37) rfl (by kernel_rfl) rb 0 rfl (mcells s gb tv) 55 M1.out.cell .u32 (n4 : Int) rfl info_u1 (by rw [mcells_len s gb tv hr hc]; decide) ?_))
    intro w2 b2 u2 z2
    rw [mset_pc] at b2
    have M2 : Hid (RfAt rb gb base tv { s with pc := n4 } w2) := Lib.hid (M1.out.set u2 b2 rfl rfl)
    have R2 := Lib.hid (u2.keep R1.out (by simp; omega))
    have I2 := Lib.hid (u2.keep I1.out (by simp; omega))
    have Q2 := Lib.hid (u2.keep Q1.out (by simp; omega))
    have V2 := Lib.hid ((U1.out.mono (T := [rb]) (by simp)).trans u2)
    clear b2 u2 z2 M1 R1 I1 Q1 U1
    have i0 : w2.cell? ⟨zz.heap.size, 0, none⟩ = some (.int .i64 (op : Int)) := by rw [cells_of I2.out]; rfl
    go_wp2_with (fail)
    refine (ST.out _).mono ?_
    rintro e zs ⟨rfl, hzs⟩
    subst hzs
    go_wp2_with (first
      | go_skip
      | ((with_reducible refine at_st 74 ?_); refine L_store_one 4 (.tmp 74) _ rfl (by kernel_rfl) tq 3 rfl (retL (pcR s.pc)) 38 Q2.out (.bool true) rfl rfl rfl info_b1 (show 3 < 7 by decide) ?_))
    intro w3 b3 u3 z3
    have Q3 : Hid (w3.heap[tq]? = some (.cells (retL ⟨(s.pc : Int), 0, 0, true, 0, 0, 0⟩).toArray 38 (0, 0))) := Lib.hid b3
    have U3 := Lib.hid u3
    clear b3 u3 z3 i0
    go_wp2_with (first
      | go_skip
      | ((with_reducible refine at_st 75 ?_); refine L_store_int 36 (.tmp 75) (.tmp 71) rfl (by kernel_rfl) tq 4 rfl (retL ⟨(s.pc : Int), 0, 0, true, 0, 0, 0⟩) 38 Q3.out .u32 (al : Int) rfl info_u1 (show 4 < 7 by decide) ?_))
    intro w4 b4 u4 z4
    have Q4 : Hid (w4.heap[tq]? = some (.cells (retL ⟨(s.pc : Int), 0, 0, true, (al : Int), 0, 0⟩).toArray 38 (0, 0))) := Lib.hid b4
    have U4 := Lib.hid (U3.out.trans u4)
    clear b4 u4 z4 Q3 U3
    go_wp2_with (first
      | go_skip
      | ((with_reducible refine at_st 76 ?_); refine L_store_int 36 (.tmp 76) (.tmp 72) rfl (by kernel_rfl) tq 5 rfl (retL ⟨(s.pc : Int), 0, 0, true, (al : Int), 0, 0⟩) 38 Q4.out .u32 (D : Int) rfl info_u1 (show 5 < 7 by decide) ?_))
    intro w5 b5 u5 z5
    have Q5 : Hid (w5.heap[tq]? = some (.cells (retL ⟨(s.pc : Int), 0, 0, true, (al : Int), (D : Int), 0⟩).toArray 38 (0, 0))) := Lib.hid b5
    have U5 := Lib.hid (U4.out.trans u5)
    clear b5 u5 z5 Q4 U4
    go_wp2_with (first
      | go_skip
      | ((with_reducible refine at_st 77 ?_); refine L_store_int 3 (.tmp 77) (.tmp 73) rfl (by kernel_rfl) tq 6 rfl (retL ⟨(s.pc : Int), 0, 0, true, (al : Int), (D : Int), 0⟩) 38 Q5.out .i64 (K : Int) rfl info_int1 (show 6 < 7 by decide) ?_))
    intro w6 b6 u6 z6
    have Q6 : Hid (w6.heap[tq]? = some (.cells (retL ⟨(s.pc : Int), 0, 0, true, (al : Int), (D : Int), (K : Int)⟩).toArray 38 (0, 0))) := Lib.hid b6
    have U6 := Lib.hid (U5.out.trans u6)
    clear b6 u6 z6 Q5 U5 Q2
    have M6 := Lib.hid (M2.out.upd U6.out (by simp; omega) (by simp; omega) (fun g hg => by have := hown g hg; simp; omega))
    have R6 := Lib.hid (U6.out.keep R2.out (by simp; omega))
    have V6 := Lib.hid (V2.out.then U6.out (fun x hx hlt => by simp at hx; omega))
    clear U6 M2 R2 I2 V2
    obtain ⟨A, c, htv, _, _, hN, _⟩ := M6.out.own.words
    have TL := Lib.hid htv
    have O7 : Hid (Ow w6.heap.size (w6.alloc (.cells #[] 36)) (.slice (some ⟨w6.heap.size, 0, none⟩) 0 0) []) := Lib.hid (World.ownsRow_lit w6 #[] 0 (Nat.le_refl _) (by simp [maxLen]) rfl)
    have N7 : Hid (NumsAt (w6.alloc (.cells #[] 36)) .u32 A s.trace) := Lib.hid (hN.of_upd ((Upd.refl [] w6).alloc _))
    have c39 : (w6.alloc (.cells #[] 36)).cell? ⟨rb, 39, none⟩ = some (.slice A s.trace.length c) := by
      rw [(M6.out.upd0 ((Upd.refl [] w6).alloc _)).cAt 39, mc_tail { s with pc := n4 } gb tv 1 hr hc, ← TL.out]; rfl
    clear hN htv
    have hs7 : w6.heap.size ≤ (w6.alloc (.cells #[] 36)).heap.size := by simp
    have hl7 : ([] : List Nat).length + s.trace.length ≤ 5000 := by simp; omega
    go_wp2_with (first
      | go_skip
      | ((with_reducible refine at_op 107 ?_); refine L_app2 (.tmp 102) (.tmp 106) rfl (by kernel_rfl) w6.heap.size _ [] rfl O7.out A s.trace.length c s.trace rfl rfl N7.out hl7 hs7 ?_))
    intro v8 w8 O8 u8 hb8
    have U8 := Lib.hid (((Upd.refl [] w6).alloc (.cells #[] 36)).then u8 (fun x hx hlt => by simp [Value.ownBlock] at hx; omega))
    obtain ⟨A8, c8, rfl, _, _, _, _⟩ := O8.words
    have L8 : ∀ g, (Value.slice A8 ([] ++ s.trace).length c8).ownBlock = some g → w6.heap.size ≤ g := fun g hg => (World.ownsRow.lt O8 g hg).1
    have L8' := Lib.hid L8
    have O9 := Lib.hid (O8.upd ((Upd.refl [] w8).alloc (.cells (nums .u32 [D]) 36)) (fun g hg => by simp at hg))
    have N9 := Lib.hid (numsAt_new w8 .u32 [D] 36)
    have hs9 : w6.heap.size ≤ (w8.alloc (.cells (nums .u32 [D]) 36)).heap.size := by have := U8.out.size; simp; omega
    have hl9 : ([] ++ s.trace).length + [D].length ≤ 5000 := by simp; omega
    clear O8 u8 hb8 O7 N7 c39 L8 hs7 hl7
    go_wp2_with (first
      | go_skip
      | ((with_reducible refine at_op 110 ?_); refine L_app2 (.tmp 107) (.tmp 109) ?_ ?_ ?_ ?_ ?_ ?_ ?_ ?_ ?_ ?_ ?_ ?_ ?_ ?_ ?_ ?_ ?_))
    case refine_1 => rfl
    case refine_3 => exact w6.heap.size
    case refine_7 => exact O9.out
    case refine_6 => rfl
    case refine_11 => exact [D]
    case refine_12 => rfl
    case refine_13 => rfl
    case refine_14 => exact N9.out
    case refine_15 => exact hl9
    case refine_16 => exact hs9
    intro v10 w10 O10 u10 hb10
    have U10 := Lib.hid ((U8.out.alloc (.cells (nums .u32 [D]) 36)).then u10 (fun x hx hlt => by have := L8'.out x (by simpa using hx); omega))
    obtain ⟨A10, c10, rfl, _, _, _, _⟩ := O10.words
    have OA := Lib.hid O10
    have L10 : Hid (∀ g, (Value.slice A10 (s.trace ++ [D]).length c10).ownBlock = some g → w6.heap.size ≤ g) := Lib.hid (fun g hg => (World.ownsRow.lt O10 g hg).1)
    have M10 := Lib.hid (M6.out.upd0 U10.out)
    have Q10 := Lib.hid (U10.out.keep Q6.out (by simp))
    have R10 := Lib.hid (U10.out.keep R6.out (by simp))
    have V10 := Lib.hid (V6.out.trans (U10.out.mono (by simp)))
    have hs6 : zz.heap.size + 1 < w6.heap.size := lt_of_block R6.out
    have hq6 : tq < w6.heap.size := lt_of_block Q6.out
    clear O10 u10 hb10 O9 N9 hl9 hs9 U8 U10 L8' M6 Q6 R6 V6
    obtain ⟨T, hT⟩ : ∃ T, T = s.trace ++ [D] := ⟨_, rfl⟩
    rw [← hT] at OA L10 ⊢
    rw [← hT] at EF
    clear hT
    go_wp2_with (first
      | go_skip
      | ((with_reducible refine at_st 112 ?_); refine L_store_one 23 (.tmp 112) (.tmp 110) rfl (by kernel_rfl) rb 39 rfl (mcells { s with pc := n4 } gb tv) 55 M10.out.cell (.slice A10 T.length c10) rfl rfl rfl (by kernel_rfl) (by rw [mcells_len { s with pc := n4 } gb tv hr hc]; decide) ?_))
    intro w11 b11 u11 z11
    rw [mset_trace { s with pc := n4 } gb tv (.slice A10 T.length c10) T hr hc] at b11
    have Q9 := Lib.hid (u11.keep Q10.out (by simp; omega))
    have R9 := Lib.hid (u11.keep R10.out (by simp; omega))
    have M9 : Hid (RfAt rb gb base (.slice A10 T.length c10) { s with pc := n4, trace := T } w11) := Lib.hid ⟨b11, u11.keep M10.out.mem (by simp; omega), Ow.mono (own_upd OA.out u11 (fun g hg hs => by have := L10.out g hg; simp at hs; omega)) (by omega), hne, htop⟩
    have V9 := Lib.hid ((V10.out.trans u11).mono (T := rb :: gb :: tv.ownBlock.toList) (fun x hx _ => by simp at hx; simp [hx]))
    clear b11 u11 z11 Q10 R10 M10 V10 OA
    have RR := Lib.hid (retL_one ⟨(s.pc : Int), 0, 0, true, (al : Int), (D : Int), (K : Int)⟩)
    go_wp2_with (first
      | go_skip
      | ((with_reducible refine at_op 127 ?_); refine L_load 38 (.tmp 12) rfl (by kernel_rfl) _ _ rfl (retL ⟨(s.pc : Int), 0, 0, true, (al : Int), (D : Int), (K : Int)⟩).toArray (row_allR Q9.out) Tryz.underlying38 rfl 7 info_ret rfl ?_)
      | ((with_reducible refine at_st 8 ?_); refine L_store_row 38 (.tmp 8) (.tmp 127) rfl (by kernel_rfl) (zz.heap.size + 1) 0 rfl (retL ⟨0, 0, 0, false, 0, 0, 0⟩) 38 R9.out (retL ⟨(s.pc : Int), 0, 0, true, (al : Int), (D : Int), (K : Int)⟩).toArray rfl 7 info_ret rfl (by decide) RR.out ?_))
    intro wA bA uA zA
    rw [spl_all (by rfl)] at bA
    go_wp2_with (fail)
    refine bodyPost_ret (results_cell_row rfl _ _ (zz.heap.size + 1) 38 (retL ⟨(s.pc : Int), 0, 0, true, (al : Int), (D : Int), (K : Int)⟩).toArray _ _ rfl bA Tryz.underlying38 rfl info_ret) rfl ⟨by rw [EX.out], ?_⟩
    rw [EF.out]
    exact ⟨_, M9.out.upd uA (by simp; omega) (by simp; omega) (fun g hg => by have := L10.out g hg; simp; omega), V9.out.then uA (fun x hx hlt => by simp at hx; omega), fun g hg => .inr (by have := L10.out g hg; omega)⟩
  · have e1 : ((addr : Int) == 268435456) = false := by rw [beq_eq_false_iff_ne]; omega
    have e2 : ((addr : Int) == 268435460) = true := (cast_eq_b hca).1
    rw [if_pos hca] at EX
    have EF : Hid (finS s XX = { s with pc := s.pc, halted := true, code := D }) := Lib.hid (by
      rw [stS_fin s XX s.pc s.pc (low2 addr) D K EX.out]
      unfold stS
      rw [if_neg (by rw [hca]; decide), if_pos (by rw [hca]; rfl)])
    rw [show addr / 4 * 4 = low2 addr from rfl] at q3
    generalize low2 addr = al at *
    clear hca
    go_enter Tryz.func97, Tryz.ntmps97
    go_upto_region 1 with (fail)
    generalize hW : World.alloc (World.alloc zz _) _ = W
    have hW2 : (zz.alloc (.cells (InstV.arr ⟨op, rd, r1, r2, imm⟩) 69)).alloc (.cells (retL ⟨0, 0, 0, false, 0, 0, 0⟩).toArray 38) = W := hW
    rw [hW2] at R0 U0 M0 I0
    clear hW hW2
    have hWz : zz.heap.size + 1 < W.heap.size := lt_of_block R0.out
    have c0 : W.cell? ⟨rb, 0, none⟩ = some (.int .u32 (s.pc : Int)) := by rw [M0.out.cAt 0]; rfl
    have i0 : W.cell? ⟨zz.heap.size, 0, none⟩ = some (.int .i64 (op : Int)) := by rw [cells_of I0.out]; rfl
    go_wp2_with (fail)
    refine (X.out _).mono ?_
    rintro e z1 ⟨rfl, rfl⟩
    go_upto_region 6 with (fail)
    generalize hX1 : World.alloc z1 _ = W1
    have hX12 : z1.alloc (.cells (retL (pcR s.pc)).toArray 38) = W1 := hX1
    have Q1 := Lib.hid (hl1 z1 (.cells (retL (pcR s.pc)).toArray 38))
    have U1 := Lib.hid (U0.out.alloc (.cells (retL (pcR s.pc)).toArray 38))
    have M1 := Lib.hid (M0.out.upd0 ((Upd.refl [] z1).alloc (.cells (retL (pcR s.pc)).toArray 38)))
    have R1 := Lib.hid (heap_old R0.out (.cells (retL (pcR s.pc)).toArray 38))
    have I1 := Lib.hid (heap_old I0.out (.cells (retL (pcR s.pc)).toArray 38))
    rw [hX12] at Q1 U1 M1 R1 I1
    clear hX1 hX12 M0 R0 I0 U0 i0 c0
    generalize z1.heap.size = tq at *
    go_wp2_with (first
      | go_skip
      | ((with_reducible refine at_st 40 ?_); refine L_store_int 36 (.tmp 40) (.tmp 37) rfl (by kernel_rfl) rb 0 rfl (mcells s gb tv) 55 M1.out.cell .u32 (n4 : Int) rfl info_u1 (by rw [mcells_len s gb tv hr hc]; decide) ?_))
    intro w2 b2 u2 z2
    rw [mset_pc] at b2
    have M2 : Hid (RfAt rb gb base tv { s with pc := n4 } w2) := Lib.hid (M1.out.set u2 b2 rfl rfl)
    have R2 := Lib.hid (u2.keep R1.out (by simp; omega))
    have I2 := Lib.hid (u2.keep I1.out (by simp; omega))
    have Q2 := Lib.hid (u2.keep Q1.out (by simp; omega))
    have V2 := Lib.hid ((U1.out.mono (T := [rb]) (by simp)).trans u2)
    clear b2 u2 z2 M1 R1 I1 Q1 U1
    have i0 : w2.cell? ⟨zz.heap.size, 0, none⟩ = some (.int .i64 (op : Int)) := by rw [cells_of I2.out]; rfl
    go_wp2_with (fail)
    refine (ST.out _).mono ?_
    rintro e zs ⟨rfl, hzs⟩
    subst hzs
    go_wp2_with (first
      | go_skip
      | ((with_reducible refine at_st 74 ?_); refine L_store_one 4 (.tmp 74) _ rfl (by kernel_rfl) tq 3 rfl (retL (pcR s.pc)) 38 Q2.out (.bool true) rfl rfl rfl info_b1 (show 3 < 7 by decide) ?_))
    intro w3 b3 u3 z3
    have Q3 : Hid (w3.heap[tq]? = some (.cells (retL ⟨(s.pc : Int), 0, 0, true, 0, 0, 0⟩).toArray 38 (0, 0))) := Lib.hid b3
    have U3 := Lib.hid u3
    clear b3 u3 z3 i0
    go_wp2_with (first
      | go_skip
      | ((with_reducible refine at_st 75 ?_); refine L_store_int 36 (.tmp 75) (.tmp 71) rfl (by kernel_rfl) tq 4 rfl (retL ⟨(s.pc : Int), 0, 0, true, 0, 0, 0⟩) 38 Q3.out .u32 (al : Int) rfl info_u1 (show 4 < 7 by decide) ?_))
    intro w4 b4 u4 z4
    have Q4 : Hid (w4.heap[tq]? = some (.cells (retL ⟨(s.pc : Int), 0, 0, true, (al : Int), 0, 0⟩).toArray 38 (0, 0))) := Lib.hid b4
    have U4 := Lib.hid (U3.out.trans u4)
    clear b4 u4 z4 Q3 U3
    go_wp2_with (first
      | go_skip
      | ((with_reducible refine at_st 76 ?_); refine L_store_int 36 (.tmp 76) (.tmp 72) rfl (by kernel_rfl) tq 5 rfl (retL ⟨(s.pc : Int), 0, 0, true, (al : Int), 0, 0⟩) 38 Q4.out .u32 (D : Int) rfl info_u1 (show 5 < 7 by decide) ?_))
    intro w5 b5 u5 z5
    have Q5 : Hid (w5.heap[tq]? = some (.cells (retL ⟨(s.pc : Int), 0, 0, true, (al : Int), (D : Int), 0⟩).toArray 38 (0, 0))) := Lib.hid b5
    have U5 := Lib.hid (U4.out.trans u5)
    clear b5 u5 z5 Q4 U4
    go_wp2_with (first
      | go_skip
      | ((with_reducible refine at_st 77 ?_); refine L_store_int 3 (.tmp 77) (.tmp 73) rfl (by kernel_rfl) tq 6 rfl (retL ⟨(s.pc : Int), 0, 0, true, (al : Int), (D : Int), 0⟩) 38 Q5.out .i64 (K : Int) rfl info_int1 (show 6 < 7 by decide) ?_))
    intro w6 b6 u6 z6
    have Q6 : Hid (w6.heap[tq]? = some (.cells (retL ⟨(s.pc : Int), 0, 0, true, (al : Int), (D : Int), (K : Int)⟩).toArray 38 (0, 0))) := Lib.hid b6
    have U6 := Lib.hid (U5.out.trans u6)
    clear b6 u6 z6 Q5 U5 Q2
    have M6 := Lib.hid (M2.out.upd U6.out (by simp; omega) (by simp; omega) (fun g hg => by have := hown g hg; simp; omega))
    have R6 := Lib.hid (U6.out.keep R2.out (by simp; omega))
    have V6 := Lib.hid (V2.out.then U6.out (fun x hx hlt => by simp at hx; omega))
    clear U6 M2 R2 I2 V2
    go_wp2_with (first
      | go_skip
      | ((with_reducible refine at_st 119 ?_); refine L_store_one 4 (.tmp 119) _ rfl (by kernel_rfl) rb 40 rfl (mcells { s with pc := n4 } gb tv) 55 M6.out.cell (.bool true) rfl rfl rfl info_b1 (by rw [mcells_len { s with pc := n4 } gb tv hr hc]; decide) ?_))
    intro w7 b7 u7 z7
    rw [mset_halted { s with pc := n4 } gb tv true hr hc] at b7
    have M7 : Hid (RfAt rb gb base tv { s with pc := n4, halted := true } w7) := Lib.hid (M6.out.set u7 b7 rfl rfl)
    have U7 := Lib.hid u7
    clear b7 u7 z7
    go_wp2_with (first
      | go_skip
      | ((with_reducible refine at_st 121 ?_); refine L_store_int 36 (.tmp 121) (.tmp 117) rfl (by kernel_rfl) rb 41 rfl (mcells { s with pc := n4, halted := true } gb tv) 55 M7.out.cell .u32 (D : Int) rfl info_u1 (by rw [mcells_len { s with pc := n4, halted := true } gb tv hr hc]; decide) ?_))
    intro w8 b8 u8 z8
    rw [mset_code { s with pc := n4, halted := true } gb tv D hr hc] at b8
    have M8 : Hid (RfAt rb gb base tv { s with pc := n4, halted := true, code := D } w8) := Lib.hid (M7.out.set u8 b8 rfl rfl)
    have U8 := Lib.hid (U7.out.trans u8)
    clear b8 u8 z8 M7 U7
    go_wp2_with (first
      | go_skip
      | ((with_reducible refine at_st 126 ?_); refine L_store_int 36 (.tmp 126) (.tmp 123) rfl (by kernel_rfl) rb 0 rfl (mcells { s with pc := n4, halted := true, code := D } gb tv) 55 M8.out.cell .u32 (s.pc : Int) rfl info_u1 (by rw [mcells_len { s with pc := n4, halted := true, code := D } gb tv hr hc]; decide) ?_))
    intro w9 b9 u9 z9
    rw [mset_pc] at b9
    have M9 : Hid (RfAt rb gb base tv { s with pc := s.pc, halted := true, code := D } w9) := Lib.hid (M8.out.set u9 b9 rfl rfl)
    have U9 := Lib.hid (U8.out.trans u9)
    have Q9 := Lib.hid (U9.out.keep Q6.out (by simp; omega))
    have R9 := Lib.hid (U9.out.keep R6.out (by simp; omega))
    have V9 := Lib.hid ((V6.out.trans U9.out).mono (T := rb :: gb :: tv.ownBlock.toList) (fun x hx _ => by simp at hx; simp [hx]))
    clear b9 u9 z9 M8 U8 U9 Q6 R6 M6 V6
    have RR := Lib.hid (retL_one ⟨(s.pc : Int), 0, 0, true, (al : Int), (D : Int), (K : Int)⟩)
    go_wp2_with (first
      | go_skip
      | ((with_reducible refine at_op 127 ?_); refine L_load 38 (.tmp 12) rfl (by kernel_rfl) _ _ rfl (retL ⟨(s.pc : Int), 0, 0, true, (al : Int), (D : Int), (K : Int)⟩).toArray (row_allR Q9.out) Tryz.underlying38 rfl 7 info_ret rfl ?_)
      | ((with_reducible refine at_st 8 ?_); refine L_store_row 38 (.tmp 8) (.tmp 127) rfl (by kernel_rfl) (zz.heap.size + 1) 0 rfl (retL ⟨0, 0, 0, false, 0, 0, 0⟩) 38 R9.out (retL ⟨(s.pc : Int), 0, 0, true, (al : Int), (D : Int), (K : Int)⟩).toArray rfl 7 info_ret rfl (by decide) RR.out ?_))
    intro wA bA uA zA
    rw [spl_all (by rfl)] at bA
    go_wp2_with (fail)
    refine bodyPost_ret (results_cell_row rfl _ _ (zz.heap.size + 1) 38 (retL ⟨(s.pc : Int), 0, 0, true, (al : Int), (D : Int), (K : Int)⟩).toArray _ _ rfl bA Tryz.underlying38 rfl info_ret) rfl ⟨by rw [EX.out], ?_⟩
    rw [EF.out]
    exact ⟨tv, M9.out.upd uA (by simp; omega) (by simp; omega) (fun g hg => by have := hown g hg; simp; omega), V9.out.then uA (fun x hx hlt => by simp at hx; omega), fun g hg => .inl hg⟩
  · have e1 : ((addr : Int) == 268435456) = false := by rw [beq_eq_false_iff_ne]; omega
    have e2 : ((addr : Int) == 268435460) = false := by rw [beq_eq_false_iff_ne]; omega
    have hq : addr / 4 < 1024 := by omega
    have hq2 : addr / 4 < s.mem.length := by omega
    have q1 : (addr : Int) / 4 = ((addr / 4 : Nat) : Int) := by omega
    have q2 : (addr : Int).tdiv 4 = ((addr / 4 : Nat) : Int) := by rw [Int.tdiv_eq_ediv_of_nonneg (by omega)]; omega
    have b1 : decide (((addr / 4 : Nat) : Int) < 1024) = true := decide_eq_true (by omega)
    have hol : nth s.mem (addr / 4) < 2 ^ 32 := nthB2 hmb (by decide) _
    rw [if_neg (by omega)] at EX
    have EF : Hid (finS s XX = { s with pc := n4, mem := s.mem.set (addr / 4) (mrg (nth s.mem (addr / 4)) D (K : Int)) }) := Lib.hid (by
      rw [stS_fin s XX s.pc n4 (low2 addr) D K EX.out]
      unfold stS low2
      rw [if_neg (by omega), if_neg (by omega), show addr / 4 * 4 / 4 = addr / 4 by omega])
    rw [show addr / 4 * 4 = low2 addr from rfl] at q3
    generalize low2 addr = al at *
    go_enter Tryz.func97, Tryz.ntmps97
    go_upto_region 1 with (fail)
    generalize hW : World.alloc (World.alloc zz _) _ = W
    have hW2 : (zz.alloc (.cells (InstV.arr ⟨op, rd, r1, r2, imm⟩) 69)).alloc (.cells (retL ⟨0, 0, 0, false, 0, 0, 0⟩).toArray 38) = W := hW
    rw [hW2] at R0 U0 M0 I0
    clear hW hW2
    have hWz : zz.heap.size + 1 < W.heap.size := lt_of_block R0.out
    have c0 : W.cell? ⟨rb, 0, none⟩ = some (.int .u32 (s.pc : Int)) := by rw [M0.out.cAt 0]; rfl
    have i0 : W.cell? ⟨zz.heap.size, 0, none⟩ = some (.int .i64 (op : Int)) := by rw [cells_of I0.out]; rfl
    go_wp2_with (fail)
    refine (X.out _).mono ?_
    rintro e z1 ⟨rfl, rfl⟩
    go_upto_region 6 with (fail)
    generalize hX1 : World.alloc z1 _ = W1
    have hX12 : z1.alloc (.cells (retL (pcR s.pc)).toArray 38) = W1 := hX1
    have Q1 := Lib.hid (hl1 z1 (.cells (retL (pcR s.pc)).toArray 38))
    have U1 := Lib.hid (U0.out.alloc (.cells (retL (pcR s.pc)).toArray 38))
    have M1 := Lib.hid (M0.out.upd0 ((Upd.refl [] z1).alloc (.cells (retL (pcR s.pc)).toArray 38)))
    have R1 := Lib.hid (heap_old R0.out (.cells (retL (pcR s.pc)).toArray 38))
    have I1 := Lib.hid (heap_old I0.out (.cells (retL (pcR s.pc)).toArray 38))
    rw [hX12] at Q1 U1 M1 R1 I1
    clear hX1 hX12 M0 R0 I0 U0 i0 c0
    generalize z1.heap.size = tq at *
    go_wp2_with (first
      | go_skip
      | ((with_reducible refine at_st 40 ?_); refine L_store_int 36 (.tmp 40) (.tmp 37) rfl (by kernel_rfl) rb 0 rfl (mcells s gb tv) 55 M1.out.cell .u32 (n4 : Int) rfl info_u1 (by rw [mcells_len s gb tv hr hc]; decide) ?_))
    intro w2 b2 u2 z2
    rw [mset_pc] at b2
    have M2 : Hid (RfAt rb gb base tv { s with pc := n4 } w2) := Lib.hid (M1.out.set u2 b2 rfl rfl)
    have R2 := Lib.hid (u2.keep R1.out (by simp; omega))
    have I2 := Lib.hid (u2.keep I1.out (by simp; omega))
    have Q2 := Lib.hid (u2.keep Q1.out (by simp; omega))
    have V2 := Lib.hid ((U1.out.mono (T := [rb]) (by simp)).trans u2)
    clear b2 u2 z2 M1 R1 I1 Q1 U1
    have i0 : w2.cell? ⟨zz.heap.size, 0, none⟩ = some (.int .i64 (op : Int)) := by rw [cells_of I2.out]; rfl
    go_wp2_with (fail)
    refine (ST.out _).mono ?_
    rintro e zs ⟨rfl, hzs⟩
    subst hzs
    go_wp2_with (first
      | go_skip
      | ((with_reducible refine at_st 74 ?_); refine L_store_one 4 (.tmp 74) _ rfl (by kernel_rfl) tq 3 rfl (retL (pcR s.pc)) 38 Q2.out (.bool true) rfl rfl rfl info_b1 (show 3 < 7 by decide) ?_))
    intro w3 b3 u3 z3
    have Q3 : Hid (w3.heap[tq]? = some (.cells (retL ⟨(s.pc : Int), 0, 0, true, 0, 0, 0⟩).toArray 38 (0, 0))) := Lib.hid b3
    have U3 := Lib.hid u3
    clear b3 u3 z3 i0
    go_wp2_with (first
      | go_skip
      | ((with_reducible refine at_st 75 ?_); refine L_store_int 36 (.tmp 75) (.tmp 71) rfl (by kernel_rfl) tq 4 rfl (retL ⟨(s.pc : Int), 0, 0, true, 0, 0, 0⟩) 38 Q3.out .u32 (al : Int) rfl info_u1 (show 4 < 7 by decide) ?_))
    intro w4 b4 u4 z4
    have Q4 : Hid (w4.heap[tq]? = some (.cells (retL ⟨(s.pc : Int), 0, 0, true, (al : Int), 0, 0⟩).toArray 38 (0, 0))) := Lib.hid b4
    have U4 := Lib.hid (U3.out.trans u4)
    clear b4 u4 z4 Q3 U3
    go_wp2_with (first
      | go_skip
      | ((with_reducible refine at_st 76 ?_); refine L_store_int 36 (.tmp 76) (.tmp 72) rfl (by kernel_rfl) tq 5 rfl (retL ⟨(s.pc : Int), 0, 0, true, (al : Int), 0, 0⟩) 38 Q4.out .u32 (D : Int) rfl info_u1 (show 5 < 7 by decide) ?_))
    intro w5 b5 u5 z5
    have Q5 : Hid (w5.heap[tq]? = some (.cells (retL ⟨(s.pc : Int), 0, 0, true, (al : Int), (D : Int), 0⟩).toArray 38 (0, 0))) := Lib.hid b5
    have U5 := Lib.hid (U4.out.trans u5)
    clear b5 u5 z5 Q4 U4
    go_wp2_with (first
      | go_skip
      | ((with_reducible refine at_st 77 ?_); refine L_store_int 3 (.tmp 77) (.tmp 73) rfl (by kernel_rfl) tq 6 rfl (retL ⟨(s.pc : Int), 0, 0, true, (al : Int), (D : Int), 0⟩) 38 Q5.out .i64 (K : Int) rfl info_int1 (show 6 < 7 by decide) ?_))
    intro w6 b6 u6 z6
    have Q6 : Hid (w6.heap[tq]? = some (.cells (retL ⟨(s.pc : Int), 0, 0, true, (al : Int), (D : Int), (K : Int)⟩).toArray 38 (0, 0))) := Lib.hid b6
    have U6 := Lib.hid (U5.out.trans u6)
    clear b6 u6 z6 Q5 U5 Q2
    have M6 := Lib.hid (M2.out.upd U6.out (by simp; omega) (by simp; omega) (fun g hg => by have := hown g hg; simp; omega))
    have R6 := Lib.hid (U6.out.keep R2.out (by simp; omega))
    have V6 := Lib.hid (V2.out.then U6.out (fun x hx hlt => by simp at hx; omega))
    clear U6 M2 R2 I2 V2
    have n38 : ∀ x : Near [] w6, x.1.cell? ⟨rb, 38, none⟩ = some (.slice (some ⟨gb, 0, none⟩) 1024 1024) := fun x => by rw [(M6.out.upd0 x.2).cAt 38, mc_tail { s with pc := n4 } gb tv 0 hr hc]; rfl
    have nw : ∀ x : Near [] w6, x.1.cell? ⟨gb, addr / 4, none⟩ = some (.int .u32 ((nth s.mem (addr / 4) : Nat) : Int)) := fun x => by rw [cells_of (x.2.keep M6.out.mem (by simp))]; exact nums_nth .u32 s.mem _ hq2
    obtain ⟨q, hq0⟩ : ∃ q, q = addr / 4 := ⟨_, rfl⟩
    rw [← hq0] at nw hol hq2 b1 q1 q2 EF
    obtain ⟨old, ho0⟩ : ∃ old, old = nth s.mem q := ⟨_, rfl⟩
    rw [← ho0] at nw hol EF
    clear hq0 ho0 hq
    go_wp2_with (fail)
    refine wp_region_segs [([([0, 1, 2, 3, 4, 5, 6, 7, 8, 9, 10, 11, 12, 13, 14, 15, 16, 17], 18)], [19]), ([([], 20)], [])] (by kernel_rfl) (by kernel_rfl) (by kernel_rfl) (by kernel_rfl) (fun _ d _ _ _ h => by cases d <;> exact h) ?_
    refine segs_part (fun z => ∃ x : Near [] w6, z = x.1) ⟨⟨_, (Upd.refl _ _).drew⟩, rfl⟩ ?_
    refine part_next ?_
    simp only [opsAt, List.map_cons, List.map_nil, List.getElem?_toArray, List.getElem?_cons_zero, List.getElem?_cons_succ, Option.getD_some]
    repeat (go_big_quiet_step (fail))
    refine wpQuiet_nil ?_
    refine part_one rfl ?_
    go_wp2_with fail
    refine (r7merge_calls old D (K : Int) _ hol hDl).mono ?_
    rintro e zm ⟨rfl, rfl⟩
    go_wp2_with fail
    refine part_same ⟨⟨_, (Upd.refl _ _).drew⟩, rfl⟩ ?_
    refine part_last ?_
    simp only [opsAt, List.map_cons, List.map_nil, List.getElem?_toArray, List.getElem?_cons_zero, List.getElem?_cons_succ, Option.getD_some]
    repeat (go_big_quiet_step (fail))
    refine wpQuiet_nil ?_
    unfold partEnd
    clear n38 nw
    refine segs_part (fun z => ∃ x : Near [gb] w6, z = x.1) ⟨⟨_, (Upd.refl _ _).drew⟩, rfl⟩ ?_
    refine part_next ?_
    simp only [opsAt, List.map_cons, List.map_nil, List.getElem?_toArray, List.getElem?_cons_zero, List.getElem?_cons_succ, Option.getD_some]
    repeat (go_big_quiet_step (fail))
    refine wpQuiet_nil ?_
    refine part_one rfl ?_
    refine L_store_int 36 (.tmp 98) (.tmp 97) rfl (by kernel_rfl) gb q rfl (nums .u32 s.mem).toList 36 (show (World.drew w6).heap[gb]? = _ from M6.out.mem) .u32 ((mrg old D (K : Int) : Nat) : Int) rfl info_u1 (by rw [Array.length_toList, nums_size]; exact hq2) ?_
    intro w7 b7 u7 z7
    rw [nums_set_l] at b7
    have V7 := Lib.hid (((Upd.refl [gb] w6).drew).trans u7)
    have B7 := Lib.hid b7
    clear b7 u7 z7
    refine part_same ⟨⟨_, V7.out⟩, rfl⟩ ?_
    refine part_last ?_
    simp only [opsAt, List.map_cons, List.map_nil, List.getElem?_toArray, List.getElem?_cons_zero, List.getElem?_cons_succ, Option.getD_some]
    repeat (go_big_quiet_step (fail))
    refine wpQuiet_nil ?_
    unfold partEnd
    refine segs_end ?_
    have Q9 := Lib.hid (V7.out.keep Q6.out (by simp; omega))
    have R9 := Lib.hid (V7.out.keep R6.out (by simp; omega))
    have M9 : Hid (RfAt rb gb base tv { s with pc := n4, mem := s.mem.set q (mrg old D (K : Int)) } w7) := Lib.hid ⟨V7.out.keep M6.out.cell (by simp; omega), B7.out, own_upd M6.out.own V7.out (fun g hg hs => by have := hown g hg; simp at hs; omega), hne, htop⟩
    have V9 := Lib.hid ((V6.out.mono (T := rb :: gb :: tv.ownBlock.toList) (fun x hx _ => by simp at hx; simp [hx])).trans (V7.out.mono (T := rb :: gb :: tv.ownBlock.toList) (fun x hx _ => by simp at hx; simp [hx])))
    clear V7 Q6 R6 M6 V6 B7
    have RR := Lib.hid (retL_one ⟨(s.pc : Int), 0, 0, true, (al : Int), (D : Int), (K : Int)⟩)
    go_wp2_with (first
      | go_skip
      | ((with_reducible refine at_op 127 ?_); refine L_load 38 (.tmp 12) rfl (by kernel_rfl) _ _ rfl (retL ⟨(s.pc : Int), 0, 0, true, (al : Int), (D : Int), (K : Int)⟩).toArray (row_allR Q9.out) Tryz.underlying38 rfl 7 info_ret rfl ?_)
      | ((with_reducible refine at_st 8 ?_); refine L_store_row 38 (.tmp 8) (.tmp 127) rfl (by kernel_rfl) (zz.heap.size + 1) 0 rfl (retL ⟨0, 0, 0, false, 0, 0, 0⟩) 38 R9.out (retL ⟨(s.pc : Int), 0, 0, true, (al : Int), (D : Int), (K : Int)⟩).toArray rfl 7 info_ret rfl (by decide) RR.out ?_))
    intro wA bA uA zA
    rw [spl_all (by rfl)] at bA
    go_wp2_with (fail)
    refine bodyPost_ret (results_cell_row rfl _ _ (zz.heap.size + 1) 38 (retL ⟨(s.pc : Int), 0, 0, true, (al : Int), (D : Int), (K : Int)⟩).toArray _ _ rfl bA Tryz.underlying38 rfl info_ret) rfl ⟨by rw [EX.out], ?_⟩
    rw [EF.out]
    exact ⟨tv, M9.out.upd uA (by simp; omega) (by simp; omega) (fun g hg => by have := hown g hg; simp; omega), V9.out.then uA (fun x hx hlt => by simp at hx; omega), fun g hg => .inl hg⟩
end Go.Proofs.YtmdjhahafjlebaaGreatDoor
