/- A plain machine: Step. -/
import Derived.Test.YtggjmdgonjhioaaGreatQZ32
namespace Go.Proofs.YtggjmdgonjhioaaGreat
open Go.RowKit Go.Dio
set_option linter.unusedSimpArgs false
set_option linter.unusedVariables false

def retL (r : RetV) : List Value := [.int .u32 r.pc, .int .u32 r.val, .int .i64 r.rd, .bool r.st, .int .u32 r.addr, .int .u32 r.data, .int .i64 r.mask]
theorem retL_one (r : RetV) : ((retL r).toArray.all fun x => x.oneCell') = true := by simp [retL, Value.oneCell']
theorem mstore_calls (mb gb base : Nat) (tv : Value) (s : MSt) (zz : World) (M : MachAt mb gb base tv s zz) (ok : MOk s) (pc val rd : Int) (st : Bool) (A d : Nat) (mask : Int) (hb : base ≤ zz.heap.size) (ht : s.trace.length ≤ 4000)
    (hA : A = 268435456 ∨ A = 268435460 ∨ A < 4096) (hd : d < 2 ^ 32) :
    Calls Tryz.prog 29 #[.pointer (some ⟨mb, 0, none⟩), .agg (retArr pc val rd st A d mask)] zz fun e z' => e = .returned (.tuple #[]) ∧ StR mb gb base tv (stS s A d mask) zz z' := by
  rcases hA with rfl | rfl | hA
  · exact store_port mb gb base tv s zz M ok pc val rd st d mask hb ht
  · exact store_halt mb gb base tv s zz M ok pc val rd st d mask
  · exact store_mem mb gb base tv s zz M ok pc val rd st A d mask hA hd
/-- A step's cells in the middle of what is made. -/
theorem made_ret {w : World} {b : Nat} {t : TypeId} {m : MadeV} (h : w.heap[b]? = some (.cells m.cells.toArray t (0, 0))) : w.rangeAt b 0 (retL m.r).toArray.toList := fun j v hv => by
  rw [cells_of h]
  match j, hv with
  | 0, hv => exact hv
  | 1, hv => exact hv
  | 2, hv => exact hv
  | 3, hv => exact hv
  | 4, hv => exact hv
  | 5, hv => exact hv
  | 6, hv => exact hv
  | n + 7, hv => simp [retL] at hv
theorem made_csr {w : World} {b : Nat} {t : TypeId} {m : MadeV} (h : w.heap[b]? = some (.cells m.cells.toArray t (0, 0))) : w.rangeAt b 8 (csV m.csrs) := fun j v hv => by
  rw [cells_of h]
  match j, hv with
  | 0, hv => exact hv
  | 1, hv => exact hv
  | 2, hv => exact hv
  | 3, hv => exact hv
  | 4, hv => exact hv
  | n + 5, hv => simp [csV] at hv
set_option maxRecDepth 20000 in
set_option maxHeartbeats 4000000 in
theorem step_halted (mb gb base : Nat) (tv : Value) (s : MSt) (zz : World) (M : MachAt mb gb base tv s zz) (ok : MOk s) (hh : s.halted = true) :
    Calls Tryz.prog 12 #[.pointer (some ⟨mb, 0, none⟩)] zz fun e z' => e = .returned (.tuple #[.agg (retL ⟨0, 0, 0, false, 0, 0, 0⟩).toArray, .bool false]) ∧ Upd [] zz z' := by
  have c40 : (zz.alloc (.cells #[.int .u32 0, .int .u32 0, .int .i64 0, .bool false, .int .u32 0, .int .u32 0, .int .i64 0] 38)).cell? ⟨mb, 40, none⟩ = some (.bool true) := by
    rw [(M.upd0 ((Upd.refl [] zz).alloc _)).cAt 40, mc_tail s gb tv 2 ok.regs ok.csrs, hh]; rfl
  have R0 := Lib.hid (hl1 zz (.cells #[.int .u32 0, .int .u32 0, .int .i64 0, .bool false, .int .u32 0, .int .u32 0, .int .i64 0] 38))
  have U0 := Lib.hid ((Upd.refl [] zz).alloc (.cells #[.int .u32 0, .int .u32 0, .int .i64 0, .bool false, .int .u32 0, .int .u32 0, .int .i64 0] 38))
  clear M ok
  go_enter Tryz.func12, Tryz.ntmps12
  go_wp2_with (first
    | go_skip
    | ((with_reducible refine at_st 2 ?_); refine L_store_row 38 (.tmp 2) (.tmp 9) rfl (by kernel_rfl) zz.heap.size 0 rfl (retL ⟨0, 0, 0, false, 0, 0, 0⟩) 38 R0.out (retL ⟨0, 0, 0, false, 0, 0, 0⟩).toArray rfl 7 info_ret rfl (by decide) (retL_one _) ?_))
  intro wA bA uA zA
  rw [spl_all (by rfl)] at bA
  go_wp2_with (fail)
  refine bodyPost_ret (results_row_tmp rfl _ _ zz.heap.size 38 (retL ⟨0, 0, 0, false, 0, 0, 0⟩).toArray _ _ _ rfl rfl bA Tryz.underlying38 rfl info_ret) rfl ⟨rfl, ?_⟩
  exact U0.out.then uA (fun x hx hlt => by simp at hx; omega)

set_option maxRecDepth 20000 in
set_option maxHeartbeats 8000000 in
theorem step_runs (mb gb base : Nat) (tv : Value) (s : MSt) (zz : World) (M : MachAt mb gb base tv s zz) (iv : MInv s) (hh : s.halted = false) (hb : base ≤ zz.heap.size) (ht : s.trace.length ≤ 4000) (hsn : s.steps ≤ 1000000) :
    Calls Tryz.prog 12 #[.pointer (some ⟨mb, 0, none⟩)] zz fun e z' => e = .returned (.tuple #[.agg (retL (madeP s).r).toArray, .bool true]) ∧ StR mb gb base tv (stepP s) zz z' := by
  have ok := iv.ok
  have hlt := lt_of_block M.cell
  have hgl := lt_of_block M.mem
  have hne := M.ne
  have htop := M.top
  have hown : ∀ g, tv.ownBlock = some g → base ≤ g ∧ g < zz.heap.size := fun g hg => World.ownsRow.lt M.own g hg
  have c40 : (zz.alloc (.cells #[.int .u32 0, .int .u32 0, .int .i64 0, .bool false, .int .u32 0, .int .u32 0, .int .i64 0] 38)).cell? ⟨mb, 40, none⟩ = some (.bool false) := by
    rw [(M.upd0 ((Upd.refl [] zz).alloc _)).cAt 40, mc_tail s gb tv 2 ok.regs ok.csrs, hh]; rfl
  have R0 := Lib.hid (hl1 zz (.cells #[.int .u32 0, .int .u32 0, .int .i64 0, .bool false, .int .u32 0, .int .u32 0, .int .i64 0] 38))
  have U0 := Lib.hid ((Upd.refl [] zz).alloc (.cells #[.int .u32 0, .int .u32 0, .int .i64 0, .bool false, .int .u32 0, .int .u32 0, .int .i64 0] 38))
  have M0 := Lib.hid (M.upd0 ((Upd.refl [] zz).alloc (.cells #[.int .u32 0, .int .u32 0, .int .i64 0, .bool false, .int .u32 0, .int .u32 0, .int .i64 0] 38)))
  clear M
  have PG := Lib.hid (made_good iv)
  have HST := Lib.hid (stepP_eq s iv hh)
  have HRG : Hid (∀ X, madeP s = X → regS s = { s with pc := X.next, csrs := X.csrs, regs := if X.r.rd = 0 then s.regs else s.regs.set X.r.rd.toNat X.r.val.toNat, steps := s.steps + 1 }) := Lib.hid (fun X h => by unfold regS; rw [h])
  clear hh
  go_enter Tryz.func12, Tryz.ntmps12
  go_wp2_with (fail)
  refine (made_calls mb gb base tv s _ M0.out ok).mono ?_
  rintro e z1 ⟨rfl, u1⟩
  clear c40
  have U1 := Lib.hid (U0.out.trans u1)
  have M1 := Lib.hid (M0.out.upd0 u1)
  have R1 := Lib.hid (u1.keep R0.out (by simp))
  have hz1 : zz.heap.size < z1.heap.size := lt_of_block R1.out
  clear u1 U0 M0 R0
  obtain ⟨X, hX⟩ : ∃ X, madeP s = X := ⟨_, rfl⟩
  rw [hX] at PG HST ⊢
  have HR := Lib.hid (HRG.out X hX)
  have HXR : Hid ((madeP s).r = X.r) := Lib.hid (by rw [hX])
  clear hX HRG
  obtain ⟨⟨rpc, rv, rrd, rst, ra, rda, rm⟩, nx, cs⟩ := X
  obtain ⟨⟨g1, ⟨n, g2, hn⟩, ⟨k, g3, hk⟩, g4, g5, g6⟩, hnx, _, ⟨c5, clt, _, _⟩⟩ := PG.out
  dsimp only at g1 g2 g3 g4 g5 g6 hnx c5 clt
  subst g1 g2 g3
  obtain ⟨c0, c1, c2, c3, c4, rfl⟩ := csr5 c5
  replace HXR : Hid ((madeP s).r = ⟨(s.pc : Int), (n : Int), (k : Int), rst, ra, rda, rm⟩) := HXR
  replace HR : Hid (regS s = { s with pc := nx, csrs := [c0, c1, c2, c3, c4], regs := if (k : Int) = 0 then s.regs else s.regs.set k n, steps := s.steps + 1 }) := HR
  replace HST : Hid (stepP s = if rst = true then stS (regS s) ra.toNat rda.toNat rm else regS s) := HST
  clear PG g6 c5
  have hXc : (MadeV.cells ⟨⟨(s.pc : Int), (n : Int), (k : Int), rst, ra, rda, rm⟩, nx, [c0, c1, c2, c3, c4]⟩).toArray = #[.int .u32 (s.pc : Int), .int .u32 (n : Int), .int .i64 (k : Int), .bool rst, .int .u32 ra, .int .u32 rda, .int .i64 rm, .int .u32 (nx : Int), .int .u32 (c0 : Int), .int .u32 (c1 : Int), .int .u32 (c2 : Int), .int .u32 (c3 : Int), .int .u32 (c4 : Int)] := rfl
  rw [hXc]
  clear hXc
  have B4 := Lib.hid (hl1 z1 (.cells #[.int .u32 (s.pc : Int), .int .u32 (n : Int), .int .i64 (k : Int), .bool rst, .int .u32 ra, .int .u32 rda, .int .i64 rm, .int .u32 (nx : Int), .int .u32 (c0 : Int), .int .u32 (c1 : Int), .int .u32 (c2 : Int), .int .u32 (c3 : Int), .int .u32 (c4 : Int)] 67))
  have UA := Lib.hid ((Upd.refl [] z1).alloc (.cells #[.int .u32 (s.pc : Int), .int .u32 (n : Int), .int .i64 (k : Int), .bool rst, .int .u32 ra, .int .u32 rda, .int .i64 rm, .int .u32 (nx : Int), .int .u32 (c0 : Int), .int .u32 (c1 : Int), .int .u32 (c2 : Int), .int .u32 (c3 : Int), .int .u32 (c4 : Int)] 67))
  go_wp2_with (fail)
  generalize hW : World.alloc z1 _ = W
  have hW2 : z1.alloc (.cells #[.int .u32 (s.pc : Int), .int .u32 (n : Int), .int .i64 (k : Int), .bool rst, .int .u32 ra, .int .u32 rda, .int .i64 rm, .int .u32 (nx : Int), .int .u32 (c0 : Int), .int .u32 (c1 : Int), .int .u32 (c2 : Int), .int .u32 (c3 : Int), .int .u32 (c4 : Int)] 67) = W := hW
  rw [hW2] at B4 UA
  clear hW hW2
  have UW := Lib.hid (U1.out.trans UA.out)
  have MW := Lib.hid (M1.out.upd0 UA.out)
  have RW := Lib.hid (UA.out.keep R1.out (by simp))
  clear U1 M1 R1 UA
  obtain ⟨tb, htb0⟩ : ∃ tb, z1.heap.size = tb := ⟨_, rfl⟩
  rw [htb0] at B4 hz1 ⊢
  clear htb0
  have n7 : ∀ x : Near [mb] W, x.1.cell? ⟨tb, 7, none⟩ = some (.int .u32 (nx : Int)) := fun x => by rw [cells_of (x.2.keep B4.out (by simp; omega))]; rfl
  have n8 : ∀ x : Near [mb] W, x.1.rangeAt tb 8 (csV [c0, c1, c2, c3, c4]) := fun x => made_csr (m := ⟨⟨(s.pc : Int), (n : Int), (k : Int), rst, ra, rda, rm⟩, nx, [c0, c1, c2, c3, c4]⟩) (x.2.keep B4.out (by simp; omega))
  have N8 := Lib.hid n8
  clear n8
  refine wp_region_plan (fun z => ∃ x : Near [mb] W, z = x.1) [([0, 1, 2, 3, 4, 5, 6, 7, 8], 9), ([10, 11, 12], 13)] [] (by kernel_rfl) (by kernel_rfl) (by kernel_rfl) (by kernel_rfl) (fun _ d _ _ _ h => by cases d <;> exact h) ⟨⟨(W).drew, (Upd.refl _ _).drew⟩, rfl⟩ ?_
  refine plan_next ?_
  simp only [opsAt, List.map_cons, List.map_nil, List.getElem?_toArray, List.getElem?_cons_zero, List.getElem?_cons_succ, Option.getD_some]
  repeat (first
    | go_big_quiet_step (fail)
    | (refine Q_load 58 (.tmp 16) rfl (by kernel_rfl) _ _ rfl (csV [c0, c1, c2, c3, c4]).toArray (by rintro _ ⟨y, rfl⟩; exact N8.out y) Tryz.underlying58 rfl 5 info_c5 rfl ?_; go_simp))
  refine wpQuiet_nil ?_
  refine plan_one rfl ?_
  refine L_store_int 36 (.tmp 20) (.tmp 15) rfl (by kernel_rfl) mb 0 rfl (mcells s gb tv) 63 (show (World.drew W).heap[mb]? = _ from MW.out.cell) .u32 (nx : Int) rfl info_u1 (by rw [mcells_len s gb tv ok.regs ok.csrs]; decide) ?_
  intro w2 b2 u2 z2
  rw [mset_pc] at b2
  have M2 := Lib.hid b2
  have V2 := Lib.hid (((Upd.refl [mb] W).drew).trans u2)
  clear b2 u2 z2
  refine plan_same ⟨⟨_, V2.out⟩, rfl⟩ ?_
  refine plan_next ?_
  simp only [opsAt, List.map_cons, List.map_nil, List.getElem?_toArray, List.getElem?_cons_zero, List.getElem?_cons_succ, Option.getD_some]
  go_simp
  repeat (go_big_quiet_step (fail))
  refine wpQuiet_nil ?_
  refine plan_one rfl ?_
  refine L_store_row 58 (.tmp 23) (.tmp 17) rfl (by kernel_rfl) mb 33 rfl (mcells { s with pc := nx } gb tv) 63 M2.out (csV [c0, c1, c2, c3, c4]).toArray rfl 5 info_c5 rfl (by rw [mcells_len { s with pc := nx } gb tv ok.regs ok.csrs]; decide) (by simp [csV, Value.oneCell']) ?_
  intro w3 b3 u3 z3
  rw [show ((csV [c0, c1, c2, c3, c4]).toArray.toList) = vals .u32 [c0, c1, c2, c3, c4] from rfl, mspl_csr { s with pc := nx } gb tv [c0, c1, c2, c3, c4] ok.regs ok.csrs rfl] at b3
  have M3 := Lib.hid b3
  have V3 := Lib.hid (V2.out.trans u3)
  clear b3 u3 z3 M2 V2 n7 N8
  refine plan_same ⟨⟨_, V3.out⟩, rfl⟩ ?_
  refine plan_last ?_
  simp only [opsAt, List.map_cons, List.map_nil, List.getElem?_toArray, List.getElem?_cons_zero, List.getElem?_cons_succ, Option.getD_some]
  go_simp
  repeat (go_big_quiet_step (fail))
  refine wpQuiet_nil ?_
  unfold planEnd
  have B5 := Lib.hid (V3.out.keep B4.out (by simp; omega))
  have R5 := Lib.hid (V3.out.keep RW.out (by simp; omega))
  have M5 : Hid (MachAt mb gb base tv { s with pc := nx, csrs := [c0, c1, c2, c3, c4] } w3) := Lib.hid ⟨M3.out, V3.out.keep MW.out.mem (by simp; omega), own_upd MW.out.own V3.out (fun g hg hs => by have := hown g hg; simp at hs; omega), hne, htop⟩
  have U5 := Lib.hid ((UW.out.mono (T := mb :: gb :: tv.ownBlock.toList) (fun x hx _ => by simp at hx)).trans (V3.out.mono (T := mb :: gb :: tv.ownBlock.toList) (fun x hx _ => by simp at hx; simp [hx])))
  have hz5 : W.heap.size ≤ w3.heap.size := V3.out.size
  have htb := lt_of_block B5.out
  clear B4 RW MW UW V3 M3
  have OB : ∀ g, tv.ownBlock = some g → (g ≠ mb ∧ g ≠ gb ∧ g ≠ zz.heap.size ∧ g ≠ tb) ∧ (tv.ownBlock = some g ∨ zz.heap.size ≤ g) := fun g hg => by have := hown g hg; refine ⟨⟨?_, ?_, ?_, ?_⟩, .inl hg⟩ <;> omega
  have d2 : w3.cell? ⟨tb, 2, none⟩ = some (.int .i64 (k : Int)) := by rw [cells_of B5.out]; rfl
  have d3 : w3.cell? ⟨tb, 3, none⟩ = some (.bool rst) := by rw [cells_of B5.out]; rfl
  have G5 := Lib.hid g5
  clear g4 g5
  by_cases hk0 : k = 0
  · have e1 : ((k : Int) != 0) = false := by simp [hk0]
    have HR1 : Hid (regS s = { s with pc := nx, csrs := [c0, c1, c2, c3, c4], steps := s.steps + 1 }) := Lib.hid (by rw [HR.out, if_pos (by omega)])
    have HK := Lib.hid hk0
    clear HR hk0
    cases rst
    · have EQ : Hid ({ s with pc := nx, csrs := [c0, c1, c2, c3, c4], steps := s.steps + 1 } = stepP s) := Lib.hid (by rw [HST.out, if_neg (by decide), HR1.out])
      have hS2r : ({ s with pc := nx, csrs := [c0, c1, c2, c3, c4] }).regs.length = 32 := by first | exact ok.regs | exact k1 | (show (List.set _ _ _).length = _; rw [List.length_set]; exact ok.regs)
      have hS2c : ({ s with pc := nx, csrs := [c0, c1, c2, c3, c4] }).csrs.length = 5 := by first | exact k2 | rfl
      have hS2s : ({ s with pc := nx, csrs := [c0, c1, c2, c3, c4] }).steps = s.steps := by first | exact k3 | rfl
      have c42 := M5.out.cAt 42
      rw [mc_tail ({ s with pc := nx, csrs := [c0, c1, c2, c3, c4] }) gb tv 4 hS2r hS2c] at c42
      simp only [List.getElem?_cons_succ, List.getElem?_cons_zero, hS2s] at c42
      go_wp2_with (first
        | go_skip
        | ((with_reducible refine at_st 52 ?_); refine L_store_int 3 (.tmp 52) (.tmp 50) rfl (by kernel_rfl) mb 42 rfl (mcells ({ s with pc := nx, csrs := [c0, c1, c2, c3, c4] }) gb tv) 63 M5.out.cell .i64 ((s.steps : Int) + 1) rfl info_int1 (by rw [mcells_len ({ s with pc := nx, csrs := [c0, c1, c2, c3, c4] }) gb tv hS2r hS2c]; decide) ?_))
      intro wS bS uS zS
      rw [show ((s.steps : Int) + 1) = ((s.steps + 1 : Nat) : Int) from rfl, mset_steps ({ s with pc := nx, csrs := [c0, c1, c2, c3, c4] }) gb tv _ hS2r hS2c] at bS
      have BS := Lib.hid (uS.keep B5.out (by simp; omega))
      have RS2 := Lib.hid (uS.keep R5.out (by simp; omega))
      have MS := Lib.hid bS
      have US := Lib.hid uS
      clear bS uS zS c42
      go_wp2_with (first
        | go_skip
        | ((with_reducible refine at_op 54 ?_); refine L_load 38 (.tmp 53) rfl (by kernel_rfl) _ _ rfl (retL ⟨(s.pc : Int), (n : Int), (k : Int), false, ra, rda, rm⟩).toArray (made_ret (m := ⟨⟨(s.pc : Int), (n : Int), (k : Int), false, ra, rda, rm⟩, nx, [c0, c1, c2, c3, c4]⟩) BS.out) Tryz.underlying38 rfl 7 info_ret rfl ?_)
        | ((with_reducible refine at_st 2 ?_); refine L_store_row 38 (.tmp 2) (.tmp 54) rfl (by kernel_rfl) zz.heap.size 0 rfl (retL ⟨0, 0, 0, false, 0, 0, 0⟩) 38 RS2.out (retL ⟨(s.pc : Int), (n : Int), (k : Int), false, ra, rda, rm⟩).toArray rfl 7 info_ret rfl (by decide) (retL_one _) ?_))
      intro wT bT uT zT
      rw [spl_all (by rfl)] at bT
      have MT := Lib.hid (uT.keep MS.out (by simp; omega))
      have UT := Lib.hid ((U5.out.trans (US.out.mono (T := mb :: gb :: tv.ownBlock.toList) (fun x hx _ => by simp at hx; simp [hx]))).then uT (fun x hx hlt => by simp at hx; omega))
      have GT := Lib.hid (uT.keep (US.out.keep M5.out.mem (by simp; omega)) (by simp; omega))
      have OT := Lib.hid (own_upd (own_upd M5.out.own US.out (fun g hg hs => by have := OB g hg; simp at hs; omega)) uT (fun g hg hs => by have := OB g hg; simp at hs; omega))
      clear MS
      go_wp2_with (fail)
      refine bodyPost_ret (results_row_tmp rfl _ _ zz.heap.size 38 (retL ⟨(s.pc : Int), (n : Int), (k : Int), false, ra, rda, rm⟩).toArray _ _ _ rfl rfl bT Tryz.underlying38 rfl info_ret) rfl ⟨by rw [HXR.out]; rfl, ?_⟩
      rw [← EQ.out]
      exact ⟨tv, ⟨MT.out, GT.out, OT.out, hne, htop⟩, UT.out, fun g hg => (OB g hg).2⟩
    · obtain ⟨hz0, A, d, ea, ed, hd, _, hA⟩ := G5.out rfl
      clear hz0
      subst ea ed
      have EQ : Hid ({ (stS { s with pc := nx, csrs := [c0, c1, c2, c3, c4] } A d rm) with steps := s.steps + 1 } = stepP s) := Lib.hid (by
        rw [HST.out, if_pos rfl, HR1.out]
        unfold stS
        simp only [Int.toNat_natCast]
        by_cases h1 : A = 268435456
        · rw [if_pos h1, if_pos h1]
        · rw [if_neg h1, if_neg h1]
          by_cases h2 : A = 268435460
          · rw [if_pos h2, if_pos h2]
          · rw [if_neg h2, if_neg h2])
      have ok5 : MOk { s with pc := nx, csrs := [c0, c1, c2, c3, c4] } := ⟨ok.regs, rfl, ok.mem, hnx, ok.rlt, clt, ok.mlt, ok.tlt, ok.code⟩
      have OK5 := Lib.hid ok5
      clear ok5
      go_wp2_with (first
        | go_skip
        | ((with_reducible refine at_op 44 ?_); refine L_load 38 (.tmp 43) rfl (by kernel_rfl) _ _ rfl (retL ⟨(s.pc : Int), (n : Int), (k : Int), true, A, d, rm⟩).toArray (made_ret (m := ⟨⟨(s.pc : Int), (n : Int), (k : Int), true, A, d, rm⟩, nx, [c0, c1, c2, c3, c4]⟩) B5.out) Tryz.underlying38 rfl 7 info_ret rfl ?_))
      have CST : Calls Tryz.prog 29 #[.pointer (some ⟨mb, 0, none⟩), .agg (retL ⟨(s.pc : Int), (n : Int), (k : Int), true, A, d, rm⟩).toArray] w3 fun e z' => e = .returned (.tuple #[]) ∧ StR mb gb base tv (stS { s with pc := nx, csrs := [c0, c1, c2, c3, c4] } A d rm) w3 z' := mstore_calls mb gb base tv { s with pc := nx, csrs := [c0, c1, c2, c3, c4] } w3 M5.out OK5.out (s.pc : Int) (n : Int) (k : Int) true A d rm (by omega) ht hA hd
      refine CST.mono ?_
      rintro e w6 ⟨rfl, tv6, M6', u6, o6⟩
      have M6 := Lib.hid M6'
      have U6 := Lib.hid u6
      clear M6' u6 CST
      have OB6 : ∀ g, tv6.ownBlock = some g → (g ≠ mb ∧ g ≠ gb ∧ g ≠ zz.heap.size ∧ g ≠ tb) ∧ (tv.ownBlock = some g ∨ zz.heap.size ≤ g) := fun g hg => by
        rcases o6 g hg with h | h
        · exact OB g h
        · refine ⟨⟨?_, ?_, ?_, ?_⟩, .inr ?_⟩ <;> omega
      have hnot : ∀ b, (b = zz.heap.size ∨ b = tb) → b ∉ (mb :: gb :: tv.ownBlock.toList) := fun b hb' h => by
        simp only [List.mem_cons, Option.mem_toList] at h
        rcases h with h | h | h
        · omega
        · omega
        · have := OB b h; omega
      have B6 := Lib.hid (U6.out.keep B5.out (hnot _ (.inr rfl)))
      have R6 := Lib.hid (U6.out.keep R5.out (hnot _ (.inl rfl)))
      have UF := Lib.hid (U5.out.trans U6.out)
      obtain ⟨S6, hS6⟩ : ∃ S6, stS { s with pc := nx, csrs := [c0, c1, c2, c3, c4] } A d rm = S6 := ⟨_, rfl⟩
      have k1 : S6.regs.length = 32 := by rw [← hS6]; unfold stS; split; exact ok.regs; split; exact ok.regs; exact ok.regs
      have k2 : S6.csrs.length = 5 := by rw [← hS6]; unfold stS; split; rfl; split; rfl; rfl
      have k3 : S6.steps = s.steps := by rw [← hS6]; unfold stS; split; rfl; split; rfl; rfl
      rw [hS6] at M6 EQ
      clear hS6 hnot o6 d2 d3
      have hS2r : (S6).regs.length = 32 := by first | exact ok.regs | exact k1 | (show (List.set _ _ _).length = _; rw [List.length_set]; exact ok.regs)
      have hS2c : (S6).csrs.length = 5 := by first | exact k2 | rfl
      have hS2s : (S6).steps = s.steps := by first | exact k3 | rfl
      have c42 := M6.out.cAt 42
      rw [mc_tail (S6) gb tv6 4 hS2r hS2c] at c42
      simp only [List.getElem?_cons_succ, List.getElem?_cons_zero, hS2s] at c42
      go_wp2_with (first
        | go_skip
        | ((with_reducible refine at_st 52 ?_); refine L_store_int 3 (.tmp 52) (.tmp 50) rfl (by kernel_rfl) mb 42 rfl (mcells (S6) gb tv6) 63 M6.out.cell .i64 ((s.steps : Int) + 1) rfl info_int1 (by rw [mcells_len (S6) gb tv6 hS2r hS2c]; decide) ?_))
      intro wS bS uS zS
      rw [show ((s.steps : Int) + 1) = ((s.steps + 1 : Nat) : Int) from rfl, mset_steps (S6) gb tv6 _ hS2r hS2c] at bS
      have BS := Lib.hid (uS.keep B6.out (by simp; omega))
      have RS2 := Lib.hid (uS.keep R6.out (by simp; omega))
      have MS := Lib.hid bS
      have US := Lib.hid uS
      clear bS uS zS c42
      go_wp2_with (first
        | go_skip
        | ((with_reducible refine at_op 54 ?_); refine L_load 38 (.tmp 53) rfl (by kernel_rfl) _ _ rfl (retL ⟨(s.pc : Int), (n : Int), (k : Int), true, (A : Int), (d : Int), rm⟩).toArray (made_ret (m := ⟨⟨(s.pc : Int), (n : Int), (k : Int), true, (A : Int), (d : Int), rm⟩, nx, [c0, c1, c2, c3, c4]⟩) BS.out) Tryz.underlying38 rfl 7 info_ret rfl ?_)
        | ((with_reducible refine at_st 2 ?_); refine L_store_row 38 (.tmp 2) (.tmp 54) rfl (by kernel_rfl) zz.heap.size 0 rfl (retL ⟨0, 0, 0, false, 0, 0, 0⟩) 38 RS2.out (retL ⟨(s.pc : Int), (n : Int), (k : Int), true, (A : Int), (d : Int), rm⟩).toArray rfl 7 info_ret rfl (by decide) (retL_one _) ?_))
      intro wT bT uT zT
      rw [spl_all (by rfl)] at bT
      have MT := Lib.hid (uT.keep MS.out (by simp; omega))
      have UT := Lib.hid ((UF.out.trans (US.out.mono (T := mb :: gb :: tv.ownBlock.toList) (fun x hx _ => by simp at hx; simp [hx]))).then uT (fun x hx hlt => by simp at hx; omega))
      have GT := Lib.hid (uT.keep (US.out.keep M6.out.mem (by simp; omega)) (by simp; omega))
      have OT := Lib.hid (own_upd (own_upd M6.out.own US.out (fun g hg hs => by have := OB6 g hg; simp at hs; omega)) uT (fun g hg hs => by have := OB6 g hg; simp at hs; omega))
      clear MS
      go_wp2_with (fail)
      refine bodyPost_ret (results_row_tmp rfl _ _ zz.heap.size 38 (retL ⟨(s.pc : Int), (n : Int), (k : Int), true, (A : Int), (d : Int), rm⟩).toArray _ _ _ rfl rfl bT Tryz.underlying38 rfl info_ret) rfl ⟨by rw [HXR.out]; rfl, ?_⟩
      rw [← EQ.out]
      exact ⟨tv6, ⟨MT.out, GT.out, OT.out, hne, htop⟩, UT.out, fun g hg => (OB6 g hg).2⟩
  · have e1 : ((k : Int) != 0) = true := by simp [hk0]
    have hst : rst = false := by
      cases rst
      · rfl
      · exact absurd (G5.out rfl).1 (by omega)
    subst hst
    have HR1 : Hid (regS s = { s with pc := nx, csrs := [c0, c1, c2, c3, c4], regs := s.regs.set k n, steps := s.steps + 1 }) := Lib.hid (by rw [HR.out, if_neg (by omega)])
    have EQ : Hid ({ s with pc := nx, csrs := [c0, c1, c2, c3, c4], regs := s.regs.set k n, steps := s.steps + 1 } = stepP s) := Lib.hid (by rw [HST.out, if_neg (by decide), HR1.out])
    clear HR hk0
    have n1 : ∀ x : Near [mb] w3, x.1.cell? ⟨tb, 1, none⟩ = some (.int .u32 (n : Int)) := fun x => by rw [cells_of (x.2.keep B5.out (by simp; omega))]; rfl
    have n2 : ∀ x : Near [mb] w3, x.1.cell? ⟨tb, 2, none⟩ = some (.int .i64 (k : Int)) := fun x => by rw [cells_of (x.2.keep B5.out (by simp; omega))]; rfl
    have b1 : decide ((k : Int) < 32) = true := decide_eq_true (by omega)
    go_wp2_with (fail)
    refine wp_region_plan (fun z => ∃ x : Near [mb] w3, z = x.1) [([0, 1, 2, 3, 4, 5, 6, 7, 8, 9, 10], 11)] [] (by kernel_rfl) (by kernel_rfl) (by kernel_rfl) (by kernel_rfl) (fun _ d _ _ _ h => by cases d <;> exact h) ⟨⟨(w3).drew, (Upd.refl _ _).drew⟩, rfl⟩ ?_
    refine plan_next ?_
    simp only [opsAt, List.map_cons, List.map_nil, List.getElem?_toArray, List.getElem?_cons_zero, List.getElem?_cons_succ, Option.getD_some]
    go_simp
    repeat (go_big_quiet_step (fail))
    refine wpQuiet_nil ?_
    refine plan_one rfl ?_
    refine L_store_int 36 (.tmp 38) (.tmp 34) rfl (by kernel_rfl) mb (1 + k) rfl (mcells { s with pc := nx, csrs := [c0, c1, c2, c3, c4] } gb tv) 63 (show (World.drew w3).heap[mb]? = _ from M5.out.cell) .u32 (n : Int) rfl info_u1 (by rw [mcells_len { s with pc := nx, csrs := [c0, c1, c2, c3, c4] } gb tv ok.regs rfl]; omega) ?_
    intro w4 b4 u4 z4
    rw [mset_reg { s with pc := nx, csrs := [c0, c1, c2, c3, c4] } gb tv k n ok.regs hk] at b4
    have M4 := Lib.hid b4
    have V4 := Lib.hid (((Upd.refl [mb] w3).drew).trans u4)
    clear b4 u4 z4
    refine plan_same ⟨⟨_, V4.out⟩, rfl⟩ ?_
    refine plan_last ?_
    simp only [opsAt, List.map_cons, List.map_nil, List.getElem?_toArray, List.getElem?_cons_zero, List.getElem?_cons_succ, Option.getD_some]
    go_simp
    repeat (go_big_quiet_step (fail))
    refine wpQuiet_nil ?_
    unfold planEnd
    have B6 := Lib.hid (V4.out.keep B5.out (by simp; omega))
    have R6 := Lib.hid (V4.out.keep R5.out (by simp; omega))
    have M6 : Hid (MachAt mb gb base tv { s with pc := nx, csrs := [c0, c1, c2, c3, c4], regs := s.regs.set k n } w4) := Lib.hid ⟨M4.out, V4.out.keep M5.out.mem (by simp; omega), own_upd M5.out.own V4.out (fun g hg hs => by have := OB g hg; simp at hs; omega), hne, htop⟩
    have U6 := Lib.hid (U5.out.trans (V4.out.mono (T := mb :: gb :: tv.ownBlock.toList) (fun x hx _ => by simp at hx; simp [hx])))
    have d36 : w4.cell? ⟨tb, 3, none⟩ = some (.bool false) := by rw [cells_of B6.out]; rfl
    clear M4 V4 n1 n2 b1 d2 d3
    have hS2r : ({ s with pc := nx, csrs := [c0, c1, c2, c3, c4], regs := s.regs.set k n }).regs.length = 32 := by first | exact ok.regs | exact k1 | (show (List.set _ _ _).length = _; rw [List.length_set]; exact ok.regs)
    have hS2c : ({ s with pc := nx, csrs := [c0, c1, c2, c3, c4], regs := s.regs.set k n }).csrs.length = 5 := by first | exact k2 | rfl
    have hS2s : ({ s with pc := nx, csrs := [c0, c1, c2, c3, c4], regs := s.regs.set k n }).steps = s.steps := by first | exact k3 | rfl
    have c42 := M6.out.cAt 42
    rw [mc_tail ({ s with pc := nx, csrs := [c0, c1, c2, c3, c4], regs := s.regs.set k n }) gb tv 4 hS2r hS2c] at c42
    simp only [List.getElem?_cons_succ, List.getElem?_cons_zero, hS2s] at c42
    go_wp2_with (first
      | go_skip
      | ((with_reducible refine at_st 52 ?_); refine L_store_int 3 (.tmp 52) (.tmp 50) rfl (by kernel_rfl) mb 42 rfl (mcells ({ s with pc := nx, csrs := [c0, c1, c2, c3, c4], regs := s.regs.set k n }) gb tv) 63 M6.out.cell .i64 ((s.steps : Int) + 1) rfl info_int1 (by rw [mcells_len ({ s with pc := nx, csrs := [c0, c1, c2, c3, c4], regs := s.regs.set k n }) gb tv hS2r hS2c]; decide) ?_))
    intro wS bS uS zS
    rw [show ((s.steps : Int) + 1) = ((s.steps + 1 : Nat) : Int) from rfl, mset_steps ({ s with pc := nx, csrs := [c0, c1, c2, c3, c4], regs := s.regs.set k n }) gb tv _ hS2r hS2c] at bS
    have BS := Lib.hid (uS.keep B6.out (by simp; omega))
    have RS2 := Lib.hid (uS.keep R6.out (by simp; omega))
    have MS := Lib.hid bS
    have US := Lib.hid uS
    clear bS uS zS c42
    go_wp2_with (first
      | go_skip
      | ((with_reducible refine at_op 54 ?_); refine L_load 38 (.tmp 53) rfl (by kernel_rfl) _ _ rfl (retL ⟨(s.pc : Int), (n : Int), (k : Int), false, ra, rda, rm⟩).toArray (made_ret (m := ⟨⟨(s.pc : Int), (n : Int), (k : Int), false, ra, rda, rm⟩, nx, [c0, c1, c2, c3, c4]⟩) BS.out) Tryz.underlying38 rfl 7 info_ret rfl ?_)
      | ((with_reducible refine at_st 2 ?_); refine L_store_row 38 (.tmp 2) (.tmp 54) rfl (by kernel_rfl) zz.heap.size 0 rfl (retL ⟨0, 0, 0, false, 0, 0, 0⟩) 38 RS2.out (retL ⟨(s.pc : Int), (n : Int), (k : Int), false, ra, rda, rm⟩).toArray rfl 7 info_ret rfl (by decide) (retL_one _) ?_))
    intro wT bT uT zT
    rw [spl_all (by rfl)] at bT
    have MT := Lib.hid (uT.keep MS.out (by simp; omega))
    have UT := Lib.hid ((U6.out.trans (US.out.mono (T := mb :: gb :: tv.ownBlock.toList) (fun x hx _ => by simp at hx; simp [hx]))).then uT (fun x hx hlt => by simp at hx; omega))
    have GT := Lib.hid (uT.keep (US.out.keep M6.out.mem (by simp; omega)) (by simp; omega))
    have OT := Lib.hid (own_upd (own_upd M6.out.own US.out (fun g hg hs => by have := OB g hg; simp at hs; omega)) uT (fun g hg hs => by have := OB g hg; simp at hs; omega))
    clear MS
    go_wp2_with (fail)
    refine bodyPost_ret (results_row_tmp rfl _ _ zz.heap.size 38 (retL ⟨(s.pc : Int), (n : Int), (k : Int), false, ra, rda, rm⟩).toArray _ _ _ rfl rfl bT Tryz.underlying38 rfl info_ret) rfl ⟨by rw [HXR.out]; rfl, ?_⟩
    rw [← EQ.out]
    exact ⟨tv, ⟨MT.out, GT.out, OT.out, hne, htop⟩, UT.out, fun g hg => (OB g hg).2⟩
end Go.Proofs.YtggjmdgonjhioaaGreat
