/- A plain machine: Step. -/
import Derived.Test.YtggjmdgonjhioaaGa
import Derived.Test.YtggjmdgonjhioaaGe
import Derived.Lib.SliceRun
import Derived.WalkMore
import Derived.Test.YtggjmdgonjhioaaGl
namespace Go.Proofs.Ytggjmdgonjhioaa
open Go.RowKit Go.Dio
set_option linter.unusedSimpArgs false
set_option linter.unusedVariables false

def retL (r : RetV) : List Value := [.int .u32 r.pc, .int .u32 r.val, .int .i64 r.rd, .bool r.st, .int .u32 r.addr, .int .u32 r.data, .int .i64 r.mask]
theorem retL_one (r : RetV) : ((retL r).toArray.all fun x => x.oneCell') = true := by simp [retL, Value.oneCell']
theorem mstore_calls (mb gb base : Nat) (tv : Value) (s : MSt) (zz : World) (M : MachAt mb gb base tv s zz) (ok : MOk s) (pc val rd : Int) (st : Bool) (A d : Nat) (mask : Int) (hb : base ≤ zz.heap.size) (ht : s.trace.length ≤ 4000)
    (hA : A = 268435456 ∨ A = 268435460 ∨ A < 4096) (hd : d < 2 ^ 32) :
    Calls Try.prog 19 #[.pointer (some ⟨mb, 0, none⟩), .agg (retArr pc val rd st A d mask)] zz fun e z' => e = .returned (.tuple #[]) ∧ StR mb gb base tv (stS s A d mask) zz z' := by
  rcases hA with rfl | rfl | hA
  · exact store_port mb gb base tv s zz M ok pc val rd st d mask hb ht
  · exact store_halt mb gb base tv s zz M ok pc val rd st d mask
  · exact store_mem mb gb base tv s zz M ok pc val rd st A d mask hA hd
/-- A step's cells in the middle of what is made. -/
theorem made_ret {w : World} {b : Nat} {t : TypeId} {m : MadeV} (h : w.heap[b]? = some (.cells m.cells.toArray t (0, 0))) : w.rangeAt b 0 (retL m.r).toArray.toList := fun j v hv => by
  rw [cells_of h]
  match j, hv with
  | 0, hv => exact hv
  | 1, hv => exact hv
  | 2, hv => exact hv
  | 3, hv => exact hv
  | 4, hv => exact hv
  | 5, hv => exact hv
  | 6, hv => exact hv
  | n + 7, hv => simp [retL] at hv
theorem made_csr {w : World} {b : Nat} {t : TypeId} {m : MadeV} (h : w.heap[b]? = some (.cells m.cells.toArray t (0, 0))) : w.rangeAt b 8 (csV m.csrs) := fun j v hv => by
  rw [cells_of h]
  match j, hv with
  | 0, hv => exact hv
  | 1, hv => exact hv
  | 2, hv => exact hv
  | 3, hv => exact hv
  | 4, hv => exact hv
  | n + 5, hv => simp [csV] at hv
set_option maxRecDepth 20000 in
set_option maxHeartbeats 4000000 in
theorem step_halted (mb gb base : Nat) (tv : Value) (s : MSt) (zz : World) (M : MachAt mb gb base tv s zz) (ok : MOk s) (hh : s.halted = true) :
    Calls Try.prog 9 #[.pointer (some ⟨mb, 0, none⟩)] zz fun e z' => e = .returned (.tuple #[.agg (retL ⟨0, 0, 0, false, 0, 0, 0⟩).toArray, .bool false]) ∧ Upd [] zz z' := by
  have c40 : (zz.alloc (.cells #[.int .u32 0, .int .u32 0, .int .i64 0, .bool false, .int .u32 0, .int .u32 0, .int .i64 0] 33)).cell? ⟨mb, 40, none⟩ = some (.bool true) := by
    rw [(M.upd0 ((Upd.refl [] zz).alloc _)).cAt 40, mc_tail s gb tv 2 ok.regs ok.csrs, hh]; rfl
  have R0 := Lib.hid (hl1 zz (.cells #[.int .u32 0, .int .u32 0, .int .i64 0, .bool false, .int .u32 0, .int .u32 0, .int .i64 0] 33))
  have U0 := Lib.hid ((Upd.refl [] zz).alloc (.cells #[.int .u32 0, .int .u32 0, .int .i64 0, .bool false, .int .u32 0, .int .u32 0, .int .i64 0] 33))
  clear M ok
  go_enter Try.func9, Try.ntmps9
  go_wp2_with (first
    | go_skip
    | ((with_reducible refine at_st 2 ?_); refine L_store_row 33 (.tmp 2) (.tmp 9) rfl (by kernel_rfl) zz.heap.size 0 rfl (retL ⟨0, 0, 0, false, 0, 0, 0⟩) 33 R0.out (retL ⟨0, 0, 0, false, 0, 0, 0⟩).toArray rfl 7 info_ret rfl (by decide) (retL_one _) ?_))
  intro wA bA uA zA
  rw [spl_all (by rfl)] at bA
  go_wp2_with (fail)
  refine bodyPost_ret (results_row_tmp rfl _ _ zz.heap.size 33 (retL ⟨0, 0, 0, false, 0, 0, 0⟩).toArray _ _ _ rfl rfl bA Try.underlying33 rfl info_ret) rfl ⟨rfl, ?_⟩
  exact U0.out.then uA (fun x hx hlt => by simp at hx; omega)

set_option maxRecDepth 20000 in
set_option maxHeartbeats 8000000 in
theorem step_runs (mb gb base : Nat) (tv : Value) (s : MSt) (zz : World) (M : MachAt mb gb base tv s zz) (iv : MInv s) (hh : s.halted = false) (hb : base ≤ zz.heap.size) (ht : s.trace.length ≤ 4000) (hsn : s.steps ≤ 1000000) :
    Calls Try.prog 9 #[.pointer (some ⟨mb, 0, none⟩)] zz fun e z' => e = .returned (.tuple #[.agg (retL (madeP s).r).toArray, .bool true]) ∧ StR mb gb base tv (stepP s) zz z' := by
  have ok := iv.ok
  have hlt := lt_of_block M.cell
  have hgl := lt_of_block M.mem
  have hne := M.ne
  have htop := M.top
  have hown : ∀ g, tv.ownBlock = some g → base ≤ g ∧ g < zz.heap.size := fun g hg => World.ownsRow.lt M.own g hg
  have c40 : (zz.alloc (.cells #[.int .u32 0, .int .u32 0, .int .i64 0, .bool false, .int .u32 0, .int .u32 0, .int .i64 0] 33)).cell? ⟨mb, 40, none⟩ = some (.bool false) := by
    rw [(M.upd0 ((Upd.refl [] zz).alloc _)).cAt 40, mc_tail s gb tv 2 ok.regs ok.csrs, hh]; rfl
  have R0 := Lib.hid (hl1 zz (.cells #[.int .u32 0, .int .u32 0, .int .i64 0, .bool false, .int .u32 0, .int .u32 0, .int .i64 0] 33))
  have U0 := Lib.hid ((Upd.refl [] zz).alloc (.cells #[.int .u32 0, .int .u32 0, .int .i64 0, .bool false, .int .u32 0, .int .u32 0, .int .i64 0] 33))
  have M0 := Lib.hid (M.upd0 ((Upd.refl [] zz).alloc (.cells #[.int .u32 0, .int .u32 0, .int .i64 0, .bool false, .int .u32 0, .int .u32 0, .int .i64 0] 33)))
  clear M
  have PG := Lib.hid (made_good iv)
  have HST := Lib.hid (stepP_eq s iv hh)
  have HRG : Hid (∀ X, madeP s = X → regS s = { s with pc := X.next, csrs := X.csrs, regs := if X.r.rd = 0 then s.regs else s.regs.set X.r.rd.toNat X.r.val.toNat, steps := s.steps + 1 }) := Lib.hid (fun X h => by unfold regS; rw [h])
  clear hh
  go_enter Try.func9, Try.ntmps9
  go_wp2_with (fail)
  refine (made_calls mb gb base tv s _ M0.out ok).mono ?_
  rintro e z1 ⟨rfl, u1⟩
  clear c40
  have U1 := Lib.hid (U0.out.trans u1)
  have M1 := Lib.hid (M0.out.upd0 u1)
  have R1 := Lib.hid (u1.keep R0.out (by simp))
  have hz1 : zz.heap.size < z1.heap.size := lt_of_block R1.out
  clear u1 U0 M0 R0
  obtain ⟨X, hX⟩ : ∃ X, madeP s = X := ⟨_, rfl⟩
  rw [hX] at PG HST ⊢
  have HR := Lib.hid (HRG.out X hX)
  have HXR : Hid ((madeP s).r = X.r) := Lib.hid (by rw [hX])
  clear hX HRG
  obtain ⟨⟨rpc, rv, rrd, rst, ra, rda, rm⟩, nx, cs⟩ := X
  obtain ⟨⟨g1, ⟨n, g2, hn⟩, ⟨k, g3, hk⟩, g4, g5, g6⟩, hnx, _, ⟨c5, clt, _, _⟩⟩ := PG.out
  dsimp only at g1 g2 g3 g4 g5 g6 hnx c5 clt
  subst g1 g2 g3
  obtain ⟨c0, c1, c2, c3, c4, rfl⟩ := csr5 c5
  replace HXR : Hid ((madeP s).r = ⟨(s.pc : Int), (n : Int), (k : Int), rst, ra, rda, rm⟩) := HXR
  replace HR : Hid (regS s = { s with pc := nx, csrs := [c0, c1, c2, c3, c4], regs := if (k : Int) = 0 then s.regs else s.regs.set k n, steps := s.steps + 1 }) := HR
  replace HST : Hid (stepP s = if rst = true then stS (regS s) ra.toNat rda.toNat rm else regS s) := HST
  clear PG g6 c5
  have hXc : (MadeV.cells ⟨⟨(s.pc : Int), (n : Int), (k : Int), rst, ra, rda, rm⟩, nx, [c0, c1, c2, c3, c4]⟩).toArray = #[.int .u32 (s.pc : Int), .int .u32 (n : Int), .int .i64 (k : Int), .bool rst, .int .u32 ra, .int .u32 rda, .int .i64 rm, .int .u32 (nx : Int), .int .u32 (c0 : Int), .int .u32 (c1 : Int), .int .u32 (c2 : Int), .int .u32 (c3 : Int), .int .u32 (c4 : Int)] := rfl
  rw [hXc]
  clear hXc
  have B4 := Lib.hid (hl1 z1 (.cells #[.int .u32 (s.pc : Int), .int .u32 (n : Int), .int .i64 (k : Int), .bool rst, .int .u32 ra, .int .u32 rda, .int .i64 rm, .int .u32 (nx : Int), .int .u32 (c0 : Int), .int .u32 (c1 : Int), .int .u32 (c2 : Int), .int .u32 (c3 : Int), .int .u32 (c4 : Int)] 53))
  have UA := Lib.hid ((Upd.refl [] z1).alloc (.cells #[.int .u32 (s.pc : Int), .int .u32 (n : Int), .int .i64 (k : Int), .bool rst, .int .u32 ra, .int .u32 rda, .int .i64 rm, .int .u32 (nx : Int), .int .u32 (c0 : Int), .int .u32 (c1 : Int), .int .u32 (c2 : Int), .int .u32 (c3 : Int), .int .u32 (c4 : Int)] 53))
  go_wp2_with (fail)
  generalize hW : World.alloc z1 _ = W
  have hW2 : z1.alloc (.cells #[.int .u32 (s.pc : Int), .int .u32 (n : Int), .int .i64 (k : Int), .bool rst, .int .u32 ra, .int .u32 rda, .int .i64 rm, .int .u32 (nx : Int), .int .u32 (c0 : Int), .int .u32 (c1 : Int), .int .u32 (c2 : Int), .int .u32 (c3 : Int), .int .u32 (c4 : Int)] 53) = W := hW
  rw [hW2] at B4 UA
  clear hW hW2
  have UW := Lib.hid (U1.out.trans UA.out)
  have MW := Lib.hid (M1.out.upd0 UA.out)
  have RW := Lib.hid (UA.out.keep R1.out (by simp))
  clear U1 M1 R1 UA
  obtain ⟨tb, htb0⟩ : ∃ tb, z1.heap.size = tb := ⟨_, rfl⟩
  rw [htb0] at B4 hz1 ⊢
  clear htb0
  have n7 : ∀ x : Near [mb] W, x.1.cell? ⟨tb, 7, none⟩ = some (.int .u32 (nx : Int)) := fun x => by rw [cells_of (x.2.keep B4.out (by simp; omega))]; rfl
  have n8 : ∀ x : Near [mb] W, x.1.rangeAt tb 8 (csV [c0, c1, c2, c3, c4]) := fun x => made_csr (m := ⟨⟨(s.pc : Int), (n : Int), (k : Int), rst, ra, rda, rm⟩, nx, [c0, c1, c2, c3, c4]⟩) (x.2.keep B4.out (by simp; omega))
  have N8 := Lib.hid n8
  clear n8
  refine wp_region_plan (fun z => ∃ x : Near [mb] W, z = x.1) [([0, 1, 2, 3, 4, 5, 6, 7, 8], 9), ([10, 11, 12], 13)] [] (by kernel_rfl) (by kernel_rfl) (by kernel_rfl) (by kernel_rfl) (fun _ d _ _ _ h => by cases d <;> exact h) ⟨⟨(W).drew, (Upd.refl _ _).drew⟩, rfl⟩ ?_
  refine plan_next ?_
  simp only [opsAt, List.map_cons, List.map_nil, List.getElem?_toArray, List.getElem?_cons_zero, List.getElem?_cons_succ, Option.getD_some]
  repeat (first
    | go_big_quiet_step (fail)
    | (refine Q_load 37 (.tmp 16) rfl (by kernel_rfl) _ _ rfl (csV [c0, c1, c2, c3, c4]).toArray (by rintro _ ⟨y, rfl⟩; exact N8.out y) Try.underlying37 rfl 5 info_c5 rfl ?_; go_simp))
  refine wpQuiet_nil ?_
  refine plan_one rfl ?_
  refine L_store_int 31 (.tmp 20) (.tmp 15) rfl (by kernel_rfl) mb 0 rfl (mcells s gb tv) 51 (show (World.drew W).heap[mb]? = _ from MW.out.cell) .u32 (nx : Int) rfl info_u1 (by rw [mcells_len s gb tv ok.regs ok.csrs]; decide) ?_
  intro w2 b2 u2 z2
  rw [mset_pc] at b2
  have M2 := Lib.hid b2
  have V2 := Lib.hid (((Upd.refl [mb] W).drew).trans u2)
  clear b2 u2 z2
  refine plan_same ⟨⟨_, V2.out⟩, rfl⟩ ?_
  refine plan_next ?_
  simp only [opsAt, List.map_cons, List.map_nil, List.getElem?_toArray, List.getElem?_cons_zero, List.getElem?_cons_succ, Option.getD_some]
  go_simp
  repeat (go_big_quiet_step (fail))
  refine wpQuiet_nil ?_
  refine plan_one rfl ?_
  refine L_store_row 37 (.tmp 23) (.tmp 17) rfl (by kernel_rfl) mb 33 rfl (mcells { s with pc := nx } gb tv) 51 M2.out (csV [c0, c1, c2, c3, c4]).toArray rfl 5 info_c5 rfl (by rw [mcells_len { s with pc := nx } gb tv ok.regs ok.csrs]; decide) (by simp [csV, Value.oneCell']) ?_
  intro w3 b3 u3 z3
  rw [show ((csV [c0, c1, c2, c3, c4]).toArray.toList) = vals .u32 [c0, c1, c2, c3, c4] from rfl, mspl_csr { s with pc := nx } gb tv [c0, c1, c2, c3, c4] ok.regs ok.csrs rfl] at b3
  have M3 := Lib.hid b3
  have V3 := Lib.hid (V2.out.trans u3)
  clear b3 u3 z3 M2 V2 n7 N8
  refine plan_same ⟨⟨_, V3.out⟩, rfl⟩ ?_
  refine plan_last ?_
  simp only [opsAt, List.map_cons, List.map_nil, List.getElem?_toArray, List.getElem?_cons_zero, List.getElem?_cons_succ, Option.getD_some]
  go_simp
  repeat (go_big_quiet_step (fail))
  refine wpQuiet_nil ?_
  unfold planEnd
  have B5 := Lib.hid (V3.out.keep B4.out (by simp; omega))
  have R5 := Lib.hid (V3.out.keep RW.out (by simp; omega))
  have M5 : Hid (MachAt mb gb base tv { s with pc := nx, csrs := [c0, c1, c2, c3, c4] } w3) := Lib.hid ⟨M3.out, V3.out.keep MW.out.mem (by simp; omega), own_upd MW.out.own V3.out (fun g hg hs => by have := hown g hg; simp at hs; omega), hne, htop⟩
  have U5 := Lib.hid ((UW.out.mono (T := mb :: gb :: tv.ownBlock.toList) (fun x hx _ => by simp at hx)).trans (V3.out.mono (T := mb :: gb :: tv.ownBlock.toList) (fun x hx _ => by simp at hx; simp [hx])))
  have hz5 : W.heap.size ≤ w3.heap.size := V3.out.size
  have htb := lt_of_block B5.out
  clear B4 RW MW UW V3 M3
  have OB : ∀ g, tv.ownBlock = some g → (g ≠ mb ∧ g ≠ gb ∧ g ≠ zz.heap.size ∧ g ≠ tb) ∧ (tv.ownBlock = some g ∨ zz.heap.size ≤ g) := fun g hg => by have := hown g hg; refine ⟨⟨?_, ?_, ?_, ?_⟩, .inl hg⟩ <;> omega
  have d2 : w3.cell? ⟨tb, 2, none⟩ = some (.int .i64 (k : Int)) := by rw [cells_of B5.out]; rfl
  have d3 : w3.cell? ⟨tb, 3, none⟩ = some (.bool rst) := by rw [cells_of B5.out]; rfl
  have G5 := Lib.hid g5
  clear g4 g5
  by_cases hk0 : k = 0
  · have e1 : ((k : Int) != 0) = false := by simp [hk0]
    have HR1 : Hid (regS s = { s with pc := nx, csrs := [c0, c1, c2, c3, c4], steps := s.steps + 1 }) := Lib.hid (by rw [HR.out, if_pos (by omega)])
    have HK := Lib.hid hk0
    clear HR hk0
    cases rst
    · have EQ : Hid ({ s with pc := nx, csrs := [c0, c1, c2, c3, c4], steps := s.steps + 1 } = stepP s) := Lib.hid (by rw [HST.out, if_neg (by decide), HR1.out])
      have hS2r : ({ s with pc := nx, csrs := [c0, c1, c2, c3, c4] }).regs.length = 32 := by first | exact ok.regs | exact k1 | (show (List.set _ _ _).length = _; rw [List.length_set]; exact ok.regs)
      have hS2c : ({ s with pc := nx, csrs := [c0, c1, c2, c3, c4] }).csrs.length = 5 := by first | exact k2 | rfl
      have hS2s : ({ s with pc := nx, csrs := [c0, c1, c2, c3, c4] }).steps = s.steps := by first | exact k3 | rfl
      have c42 := M5.out.cAt 42
      rw [mc_tail ({ s with pc := nx, csrs := [c0, c1, c2, c3, c4] }) gb tv 4 hS2r hS2c] at c42
      simp only [List.getElem?_cons_succ, List.getElem?_cons_zero, hS2s] at c42
      go_wp2_with (first
        | go_skip
        | ((with_reducible refine at_st 52 ?_); refine L_store_int 3 (.tmp 52) (.tmp 50) rfl (by kernel_rfl) mb 42 rfl (mcells ({ s with pc := nx, csrs := [c0, c1, c2, c3, c4] }) gb tv) 51 M5.out.cell .i64 ((s.steps : Int) + 1) rfl info_int1 (by rw [mcells_len ({ s with pc := nx, csrs := [c0, c1, c2, c3, c4] }) gb tv hS2r hS2c]; decide) ?_))
      intro wS bS uS zS
      rw [show ((s.steps : Int) + 1) = ((s.steps + 1 : Nat) : Int) from rfl, mset_steps ({ s with pc := nx, csrs := [c0, c1, c2, c3, c4] }) gb tv _ hS2r hS2c] at bS
      have BS := Lib.hid (uS.keep B5.out (by simp; omega))
      have RS2 := Lib.hid (uS.keep R5.out (by simp; omega))
      have MS := Lib.hid bS
      have US := Lib.hid uS
      clear bS uS zS c42
      go_wp2_with (first
        | go_skip
        | ((with_reducible refine at_op 54 ?_); refine L_load 33 (.tmp 53) rfl (by kernel_rfl) _ _ rfl (retL ⟨(s.pc : Int), (n : Int), (k : Int), false, ra, rda, rm⟩).toArray (made_ret (m := ⟨⟨(s.pc : Int), (n : Int), (k : Int), false, ra, rda, rm⟩, nx, [c0, c1, c2, c3, c4]⟩) BS.out) Try.underlying33 rfl 7 info_ret rfl ?_)
        | ((with_reducible refine at_st 2 ?_); refine L_store_row 33 (.tmp 2) (.tmp 54) rfl (by kernel_rfl) zz.heap.size 0 rfl (retL ⟨0, 0, 0, false, 0, 0, 0⟩) 33 RS2.out (retL ⟨(s.pc : Int), (n : Int), (k : Int), false, ra, rda, rm⟩).toArray rfl 7 info_ret rfl (by decide) (retL_one _) ?_))
      intro wT bT uT zT
      rw [spl_all (by rfl)] at bT
      have MT := Lib.hid (uT.keep MS.out (by simp; omega))
      have UT := Lib.hid ((U5.out.trans (US.out.mono (T := mb :: gb :: tv.ownBlock.toList) (fun x hx _ => by simp at hx; simp [hx]))).then uT (fun x hx hlt => by simp at hx; omega))
      have GT := Lib.hid (uT.keep (US.out.keep M5.out.mem (by simp; omega)) (by simp; omega))
      have OT := Lib.hid (own_upd (own_upd M5.out.own US.out (fun g hg hs => by have := OB g hg; simp at hs; omega)) uT (fun g hg hs => by have := OB g hg; simp at hs; omega))
      clear MS
      go_wp2_with (fail)
      refine bodyPost_ret (results_row_tmp rfl _ _ zz.heap.size 33 (retL ⟨(s.pc : Int), (n : Int), (k : Int), false, ra, rda, rm⟩).toArray _ _ _ rfl rfl bT Try.underlying33 rfl info_ret) rfl ⟨by rw [HXR.out]; rfl, ?_⟩
      rw [← EQ.out]
      exact ⟨tv, ⟨MT.out, GT.out, OT.out, hne, htop⟩, UT.out, fun g hg => (OB g hg).2⟩
    · obtain ⟨hz0, A, d, ea, ed, hd, _, hA⟩ := G5.out rfl
      clear hz0
      subst ea ed
      have EQ : Hid ({ (stS { s with pc := nx, csrs := [c0, c1, c2, c3, c4] } A d rm) with steps := s.steps + 1 } = stepP s) := Lib.hid (by
        rw [HST.out, if_pos rfl, HR1.out]
        unfold stS
        simp only [Int.toNat_natCast]
        by_cases h1 : A = 268435456
        · rw [if_pos h1, if_pos h1]
        · rw [if_neg h1, if_neg h1]
          by_cases h2 : A = 268435460
          · rw [if_pos h2, if_pos h2]
          · rw [if_neg h2, if_neg h2])
      have ok5 : MOk { s with pc := nx, csrs := [c0, c1, c2, c3, c4] } := ⟨ok.regs, rfl, ok.mem, hnx, ok.rlt, clt, ok.mlt, ok.tlt, ok.code⟩
      have OK5 := Lib.hid ok5
      clear ok5
      go_wp2_with (first
        | go_skip
        | ((with_reducible refine at_op 44 ?_); refine L_load 33 (.tmp 43) rfl (by kernel_rfl) _ _ rfl (retL ⟨(s.pc : Int), (n : Int), (k : Int), true, A, d, rm⟩).toArray (made_ret (m := ⟨⟨(s.pc : Int), (n : Int), (k : Int), true, A, d, rm⟩, nx, [c0, c1, c2, c3, c4]⟩) B5.out) Try.underlying33 rfl 7 info_ret rfl ?_))
      have CST : Calls Try.prog 19 #[.pointer (some ⟨mb, 0, none⟩), .agg (retL ⟨(s.pc : Int), (n : Int), (k : Int), true, A, d, rm⟩).toArray] w3 fun e z' => e = .returned (.tuple #[]) ∧ StR mb gb base tv (stS { s with pc := nx, csrs := [c0, c1, c2, c3, c4] } A d rm) w3 z' := mstore_calls mb gb base tv { s with pc := nx, csrs := [c0, c1, c2, c3, c4] } w3 M5.out OK5.out (s.pc : Int) (n : Int) (k : Int) true A d rm (by omega) ht hA hd
      refine CST.mono ?_
      rintro e w6 ⟨rfl, tv6, M6', u6, o6⟩
      have M6 := Lib.hid M6'
      have U6 := Lib.hid u6
      clear M6' u6 CST
      have OB6 : ∀ g, tv6.ownBlock = some g → (g ≠ mb ∧ g ≠ gb ∧ g ≠ zz.heap.size ∧ g ≠ tb) ∧ (tv.ownBlock = some g ∨ zz.heap.size ≤ g) := fun g hg => by
        rcases o6 g hg with h | h
        · exact OB g h
        · refine ⟨⟨?_, ?_, ?_, ?_⟩, .inr ?_⟩ <;> omega
      have hnot : ∀ b, (b = zz.heap.size ∨ b = tb) → b ∉ (mb :: gb :: tv.ownBlock.toList) := fun b hb' h => by
        simp only [List.mem_cons, Option.mem_toList] at h
        rcases h with h | h | h
        · omega
        · omega
        · have := OB b h; omega
      have B6 := Lib.hid (U6.out.keep B5.out (hnot _ (.inr rfl)))
      have R6 := Lib.hid (U6.out.keep R5.out (hnot _ (.inl rfl)))
      have UF := Lib.hid (U5.out.trans U6.out)
      obtain ⟨S6, hS6⟩ : ∃ S6, stS { s with pc := nx, csrs := [c0, c1, c2, c3, c4] } A d rm = S6 := ⟨_, rfl⟩
      have k1 : S6.regs.length = 32 := by rw [← hS6]; unfold stS; split; exact ok.regs; split; exact ok.regs; exact ok.regs
      have k2 : S6.csrs.length = 5 := by rw [← hS6]; unfold stS; split; rfl; split; rfl; rfl
      have k3 : S6.steps = s.steps := by rw [← hS6]; unfold stS; split; rfl; split; rfl; rfl
      rw [hS6] at M6 EQ
      clear hS6 hnot o6 d2 d3
      have hS2r : (S6).regs.length = 32 := by first | exact ok.regs | exact k1 | (show (List.set _ _ _).length = _; rw [List.length_set]; exact ok.regs)
      have hS2c : (S6).csrs.length = 5 := by first | exact k2 | rfl
      have hS2s : (S6).steps = s.steps := by first | exact k3 | rfl
      have c42 := M6.out.cAt 42
      rw [mc_tail (S6) gb tv6 4 hS2r hS2c] at c42
      simp only [List.getElem?_cons_succ, List.getElem?_cons_zero, hS2s] at c42
      go_wp2_with (first
        | go_skip
        | ((with_reducible refine at_st 52 ?_); refine L_store_int 3 (.tmp 52) (.tmp 50) rfl (by kernel_rfl) mb 42 rfl (mcells (S6) gb tv6) 51 M6.out.cell .i64 ((s.steps : Int) + 1) rfl info_int1 (by rw [mcells_len (S6) gb tv6 hS2r hS2c]; decide) ?_))
      intro wS bS uS zS
      rw [show ((s.steps : Int) + 1) = ((s.steps + 1 : Nat) : Int) from rfl, mset_steps (S6) gb tv6 _ hS2r hS2c] at bS
      have BS := Lib.hid (uS.keep B6.out (by simp; omega))
      have RS2 := Lib.hid (uS.keep R6.out (by simp; omega))
      have MS := Lib.hid bS
      have US := Lib.hid uS
      clear bS uS zS c42
      go_wp2_with (first
        | go_skip
        | ((with_reducible refine at_op 54 ?_); refine L_load 33 (.tmp 53) rfl (by kernel_rfl) _ _ rfl (retL ⟨(s.pc : Int), (n : Int), (k : Int), true, (A : Int), (d : Int), rm⟩).toArray (made_ret (m := ⟨⟨(s.pc : Int), (n : Int), (k : Int), true, (A : Int), (d : Int), rm⟩, nx, [c0, c1, c2, c3, c4]⟩) BS.out) Try.underlying33 rfl 7 info_ret rfl ?_)
        | ((with_reducible refine at_st 2 ?_); refine L_store_row 33 (.tmp 2) (.tmp 54) rfl (by kernel_rfl) zz.heap.size 0 rfl (retL ⟨0, 0, 0, false, 0, 0, 0⟩) 33 RS2.out (retL ⟨(s.pc : Int), (n : Int), (k : Int), true, (A : Int), (d : Int), rm⟩).toArray rfl 7 info_ret rfl (by decide) (retL_one _) ?_))
      intro wT bT uT zT
      rw [spl_all (by rfl)] at bT
      have MT := Lib.hid (uT.keep MS.out (by simp; omega))
      have UT := Lib.hid ((UF.out.trans (US.out.mono (T := mb :: gb :: tv.ownBlock.toList) (fun x hx _ => by simp at hx; simp [hx]))).then uT (fun x hx hlt => by simp at hx; omega))
      have GT := Lib.hid (uT.keep (US.out.keep M6.out.mem (by simp; omega)) (by simp; omega))
      have OT := Lib.hid (own_upd (own_upd M6.out.own US.out (fun g hg hs => by have := OB6 g hg; simp at hs; omega)) uT (fun g hg hs => by have := OB6 g hg; simp at hs; omega))
      clear MS
      go_wp2_with (fail)
      refine bodyPost_ret (results_row_tmp rfl _ _ zz.heap.size 33 (retL ⟨(s.pc : Int), (n : Int), (k : Int), true, (A : Int), (d : Int), rm⟩).toArray _ _ _ rfl rfl bT Try.underlying33 rfl info_ret) rfl ⟨by rw [HXR.out]; rfl, ?_⟩
      rw [← EQ.out]
      exact ⟨tv6, ⟨MT.out, GT.out, OT.out, hne, htop⟩, UT.out, fun g hg => (OB6 g hg).2⟩
  · have e1 : ((k : Int) != 0) = true := by simp [hk0]
    have hst : rst = false := by
      cases rst
      · rfl
      · exact absurd (G5.out rfl).1 (by omega)
    subst hst
    have HR1 : Hid (regS s = { s with pc := nx, csrs := [c0, c1, c2, c3, c4], regs := s.regs.set k n, steps := s.steps + 1 }) := Lib.hid (by rw [HR.out, if_neg (by omega)])
    have EQ : Hid ({ s with pc := nx, csrs := [c0, c1, c2, c3, c4], regs := s.regs.set k n, steps := s.steps + 1 } = stepP s) := Lib.hid (by rw [HST.out, if_neg (by decide), HR1.out])
    clear HR hk0
    have n1 : ∀ x : Near [mb] w3, x.1.cell? ⟨tb, 1, none⟩ = some (.int .u32 (n : Int)) := fun x => by rw [cells_of (x.2.keep B5.out (by simp; omega))]; rfl
    have n2 : ∀ x : Near [mb] w3, x.1.cell? ⟨tb, 2, none⟩ = some (.int .i64 (k : Int)) := fun x => by rw [cells_of (x.2.keep B5.out (by simp; omega))]; rfl
    have b1 : decide ((k : Int) < 32) = true := decide_eq_true (by omega)
    go_wp2_with (fail)
    refine wp_region_plan (fun z => ∃ x : Near [mb] w3, z = x.1) [([0, 1, 2, 3, 4, 5, 6, 7, 8, 9, 10], 11)] [] (by kernel_rfl) (by kernel_rfl) (by kernel_rfl) (by kernel_rfl) (fun _ d _ _ _ h => by cases d <;> exact h) ⟨⟨(w3).drew, (Upd.refl _ _).drew⟩, rfl⟩ ?_
    refine plan_next ?_
    simp only [opsAt, List.map_cons, List.map_nil, List.getElem?_toArray, List.getElem?_cons_zero, List.getElem?_cons_succ, Option.getD_some]
    go_simp
    repeat (go_big_quiet_step (fail))
    refine wpQuiet_nil ?_
    refine plan_one rfl ?_
    refine L_store_int 31 (.tmp 38) (.tmp 34) rfl (by kernel_rfl) mb (1 + k) rfl (mcells { s with pc := nx, csrs := [c0, c1, c2, c3, c4] } gb tv) 51 (show (World.drew w3).heap[mb]? = _ from M5.out.cell) .u32 (n : Int) rfl info_u1 (by rw [mcells_len { s with pc := nx, csrs := [c0, c1, c2, c3, c4] } gb tv ok.regs rfl]; omega) ?_
    intro w4 b4 u4 z4
    rw [mset_reg { s with pc := nx, csrs := [c0, c1, c2, c3, c4] } gb tv k n ok.regs hk] at b4
    have M4 := Lib.hid b4
    have V4 := Lib.hid (((Upd.refl [mb] w3).drew).trans u4)
    clear b4 u4 z4
    refine plan_same ⟨⟨_, V4.out⟩, rfl⟩ ?_
    refine plan_last ?_
    simp only [opsAt, List.map_cons, List.map_nil, List.getElem?_toArray, List.getElem?_cons_zero, List.getElem?_cons_succ, Option.getD_some]
    go_simp
    repeat (go_big_quiet_step (fail))
    refine wpQuiet_nil ?_
    unfold planEnd
    have B6 := Lib.hid (V4.out.keep B5.out (by simp; omega))
    have R6 := Lib.hid (V4.out.keep R5.out (by simp; omega))
    have M6 : Hid (MachAt mb gb base tv { s with pc := nx, csrs := [c0, c1, c2, c3, c4], regs := s.regs.set k n } w4) := Lib.hid ⟨M4.out, V4.out.keep M5.out.mem (by simp; omega), own_upd M5.out.own V4.out (fun g hg hs => by have := OB g hg; simp at hs; omega), hne, htop⟩
    have U6 := Lib.hid (U5.out.trans (V4.out.mono (T := mb :: gb :: tv.ownBlock.toList) (fun x hx _ => by simp at hx; simp [hx])))
    have d36 : w4.cell? ⟨tb, 3, none⟩ = some (.bool false) := by rw [cells_of B6.out]; rfl
    clear M4 V4 n1 n2 b1 d2 d3
    have hS2r : ({ s with pc := nx, csrs := [c0, c1, c2, c3, c4], regs := s.regs.set k n }).regs.length = 32 := by first | exact ok.regs | exact k1 | (show (List.set _ _ _).length = _; rw [List.length_set]; exact ok.regs)
    have hS2c : ({ s with pc := nx, csrs := [c0, c1, c2, c3, c4], regs := s.regs.set k n }).csrs.length = 5 := by first | exact k2 | rfl
    have hS2s : ({ s with pc := nx, csrs := [c0, c1, c2, c3, c4], regs := s.regs.set k n }).steps = s.steps := by first | exact k3 | rfl
    have c42 := M6.out.cAt 42
    rw [mc_tail ({ s with pc := nx, csrs := [c0, c1, c2, c3, c4], regs := s.regs.set k n }) gb tv 4 hS2r hS2c] at c42
    simp only [List.getElem?_cons_succ, List.getElem?_cons_zero, hS2s] at c42
    go_wp2_with (first
      | go_skip
      | ((with_reducible refine at_st 52 ?_); refine L_store_int 3 (.tmp 52) (.tmp 50) rfl (by kernel_rfl) mb 42 rfl (mcells ({ s with pc := nx, csrs := [c0, c1, c2, c3, c4], regs := s.regs.set k n }) gb tv) 51 M6.out.cell .i64 ((s.steps : Int) + 1) rfl info_int1 (by rw [mcells_len ({ s with pc := nx, csrs := [c0, c1, c2, c3, c4], regs := s.regs.set k n }) gb tv hS2r hS2c]; decide) ?_))
    intro wS bS uS zS
    rw [show ((s.steps : Int) + 1) = ((s.steps + 1 : Nat) : Int) from rfl, mset_steps ({ s with pc := nx, csrs := [c0, c1, c2, c3, c4], regs := s.regs.set k n }) gb tv _ hS2r hS2c] at bS
    have BS := Lib.hid (uS.keep B6.out (by simp; omega))
    have RS2 := Lib.hid (uS.keep R6.out (by simp; omega))
    have MS := Lib.hid bS
    have US := Lib.hid uS
    clear bS uS zS c42
    go_wp2_with (first
      | go_skip
      | ((with_reducible refine at_op 54 ?_); refine L_load 33 (.tmp 53) rfl (by kernel_rfl) _ _ rfl (retL ⟨(s.pc : Int), (n : Int), (k : Int), false, ra, rda, rm⟩).toArray (made_ret (m := ⟨⟨(s.pc : Int), (n : Int), (k : Int), false, ra, rda, rm⟩, nx, [c0, c1, c2, c3, c4]⟩) BS.out) Try.underlying33 rfl 7 info_ret rfl ?_)
      | ((with_reducible refine at_st 2 ?_); refine L_store_row 33 (.tmp 2) (.tmp 54) rfl (by kernel_rfl) zz.heap.size 0 rfl (retL ⟨0, 0, 0, false, 0, 0, 0⟩) 33 RS2.out (retL ⟨(s.pc : Int), (n : Int), (k : Int), false, ra, rda, rm⟩).toArray rfl 7 info_ret rfl (by decide) (retL_one _) ?_))
    intro wT bT uT zT
    rw [spl_all (by rfl)] at bT
    have MT := Lib.hid (uT.keep MS.out (by simp; omega))
    have UT := Lib.hid ((U6.out.trans (US.out.mono (T := mb :: gb :: tv.ownBlock.toList) (fun x hx _ => by simp at hx; simp [hx]))).then uT (fun x hx hlt => by simp at hx; omega))
    have GT := Lib.hid (uT.keep (US.out.keep M6.out.mem (by simp; omega)) (by simp; omega))
    have OT := Lib.hid (own_upd (own_upd M6.out.own US.out (fun g hg hs => by have := OB g hg; simp at hs; omega)) uT (fun g hg hs => by have := OB g hg; simp at hs; omega))
    clear MS
    go_wp2_with (fail)
    refine bodyPost_ret (results_row_tmp rfl _ _ zz.heap.size 33 (retL ⟨(s.pc : Int), (n : Int), (k : Int), false, ra, rda, rm⟩).toArray _ _ _ rfl rfl bT Try.underlying33 rfl info_ret) rfl ⟨by rw [HXR.out]; rfl, ?_⟩
    rw [← EQ.out]
    exact ⟨tv, ⟨MT.out, GT.out, OT.out, hne, htop⟩, UT.out, fun g hg => (OB g hg).2⟩
end Go.Proofs.Ytggjmdgonjhioaa

namespace Go.Proofs.Ytggjmdgonjhioaa
open Go.RowKit Go.Dio
set_option linter.unusedSimpArgs false
set_option linter.unusedVariables false

theorem clone_calls (A : Option Addr) (l : List Nat) (n c : Nat) (w : World) (hn : n = l.length) (h : NumsAt w .u32 A l) (hl : n ≤ 5000) :
    Calls Try.prog 20 #[.slice A n c] w fun e w' => ∃ B cap, e = .returned (.slice B n cap) ∧ NumsAt w' .u32 B l ∧ Upd [] w w' ∧ (∀ a, B = some a → w.heap.size ≤ a.block) ∧ n ≤ cap ∧ cap ≤ 9223372036854775807 := by
  have HQ := Lib.hid h
  have HL := Lib.hid hn
  clear h hn
  go_enter Try.func20, Try.ntmps20
  have q35 : ∀ (w : World) (a : Option Addr) (n c n' c' : Nat), (binOp .eql 23 (.slice a n c) (.slice none n' c')).run Try.prog w = .ok (.bool a.isNone) w := fun w a n c n' c' => Lib.run_eql_slice_nil w _ _ a n c n' c' Try.underlying23
  cases A with
  | none =>
    go_wp2_with (fail)
    have h0 : n = 0 := by
      rcases Nat.eq_zero_or_pos n with h0 | h0
      · exact h0
      · obtain ⟨b, o, hA, _⟩ := HQ.out (by rw [← HL.out]; exact h0)
        cases hA
    have e0 : l = [] := List.eq_nil_of_length_eq_zero (by rw [← HL.out, h0])
    subst e0 h0
    go_ret
    exact ⟨none, 0, rfl, numsAt_nil _ _ _, Upd.refl _ _, fun a ha => (by cases ha), by simp, by omega⟩
  | some a =>
    go_wp2_with (first
      | go_skip
      | ((with_reducible refine at_op 7 ?_); refine L_append _ (.tmp 5) (.tmp 6) 23 rfl (by kernel_rfl) w.heap.size 31 _ 1 4 Try.underlying23 info_w32k rfl (by omega) (.slice (some ⟨w.heap.size, 0, none⟩) 0 0) 0 [] rfl (World.ownsRow_lit _ #[] 0 (Nat.le_refl _) (by simp [maxLen]) rfl) (some a) n c (vals .u32 l) rfl (by rw [vals_length, Nat.mul_one]; exact HL.out.symm) (srcAt_nums (HQ.out.of_upd ((Upd.refl [] w).alloc _))) (vals_one _ _) (by simp only [maxLen]; omega) (by omega) (by simp) ?_))
    intro v' w' own g1 at1
    obtain ⟨B, cap, rfl, hn, hc1, hc2, hu, hbk⟩ := nums_of_own own
    have HB := Lib.hid hbk
    have HC := Lib.hid (And.intro hc1 hc2)
    have hu' := Lib.hid hu
    have U := Lib.hid (((Upd.refl [] w).alloc (.cells #[] 31)).grown g1 (fun g hg hlt => by
      simp [Value.ownBlock] at hg; omega))
    clear own hu hc1 hc2 hbk
    rw [← HL.out] at HC ⊢
    go_wp2_with (fail)
    go_ret
    exact ⟨B, cap, rfl, hu'.out, U.out, HB.out, HC.out.1, HC.out.2⟩

theorem numsAt_keep {w w' : World} {S : List Nat} {k : IntKind} {A : Option Addr} {l : List Nat} (h : NumsAt w k A l) (hu : Upd S w w') (hS : ∀ a, A = some a → a.block ∉ S) : NumsAt w' k A l := fun h0 => by
  obtain ⟨b, o, hA, hb, hc⟩ := h h0
  exact ⟨b, o, hA, Nat.lt_of_lt_of_le hb hu.size, fun i hi => by rw [← hc i hi]; exact World.cell?_of_block (w := w) (hu.block b hb (hS _ hA))⟩
def stL (s : MSt) (v : Value) : List Value := .int .u32 (s.pc : Int) :: (vals .u32 s.regs ++ (vals .u32 s.csrs ++ [v]))
theorem stL_len (s : MSt) (v : Value) (hr : s.regs.length = 32) (hc : s.csrs.length = 5) : (stL s v).length = 39 := by simp [stL, vals_length, hr, hc]
theorem stL_one (s : MSt) (A : Option Addr) (n c : Nat) : ((stL s (.slice A n c)).toArray.all fun x => x.oneCell') = true := by simp [stL, vals, Value.oneCell']
theorem stL_get (s : MSt) (v : Value) (hr : s.regs.length = 32) (hc : s.csrs.length = 5) : (stL s v)[38]? = some v := by
  rw [stL, show 38 = (32 + (5 + 0)) + 1 by omega, List.getElem?_cons_succ, List.getElem?_append_right (by rw [vals_length]; omega), vals_length, hr, show 32 + (5 + 0) - 32 = 5 + 0 by omega,
    List.getElem?_append_right (by rw [vals_length]; omega), vals_length, hc]
  rfl
theorem stL_set (s : MSt) (v v' : Value) (hr : s.regs.length = 32) (hc : s.csrs.length = 5) : (stL s v).set 38 v' = stL s v' := by
  rw [stL, show 38 = (32 + (5 + 0)) + 1 by omega, List.set_cons_succ, List.set_append_right _ _ (by rw [vals_length]; omega), vals_length, hr, show 32 + (5 + 0) - 32 = 5 + 0 by omega,
    List.set_append_right _ _ (by rw [vals_length]; omega), vals_length, hc]
  rfl
theorem mcells_stL (s : MSt) (gb : Nat) (tv : Value) : mcells s gb tv = stL s (.slice (some ⟨gb, 0, none⟩) 1024 1024) ++ [tv, .bool s.halted, .int .u32 (s.code : Int), .int .i64 (s.steps : Int)] := by
  simp [mcells, stL]
theorem st_range {mb gb base : Nat} {tv : Value} {s : MSt} {w : World} (h : MachAt mb gb base tv s w) : w.rangeAt mb 0 (stL s (.slice (some ⟨gb, 0, none⟩) 1024 1024)) := fun j v hv => by
  rw [cells_of h.cell, Nat.zero_add, List.getElem?_toArray, mcells_stL, List.getElem?_append_left (List.getElem?_eq_some_iff.1 hv).1]
  exact hv
theorem row_all {w : World} {g : Nat} {l : List Value} {t : TypeId} (h : w.heap[g]? = some (.cells l.toArray t (0, 0))) : w.rangeAt g 0 l := fun j v hv => by
  rw [cells_of h, Nat.zero_add, List.getElem?_toArray]; exact hv

set_option maxRecDepth 20000 in
set_option maxHeartbeats 4000000 in
theorem state_calls (mb gb base : Nat) (tv : Value) (s : MSt) (zz : World) (M : MachAt mb gb base tv s zz) (ok : MOk s) :
    Calls Try.prog 10 #[.pointer (some ⟨mb, 0, none⟩)] zz fun e z' => ∃ B cap, e = .returned (.agg (StV.arr ⟨s.pc, s.regs, s.csrs, B, s.mem, cap⟩)) ∧ StV.OK ⟨s.pc, s.regs, s.csrs, B, s.mem, cap⟩ z' ∧ Upd [] zz z' := by
  obtain ⟨LR, hLR⟩ : ∃ LR, LR = stL s (.slice (some ⟨gb, 0, none⟩) 1024 1024) := ⟨_, rfl⟩
  have HS : LR.toArray.size = 39 := by rw [hLR, List.size_toArray, stL_len s _ ok.regs ok.csrs]
  have HSL : LR.length = 39 := by rw [hLR, stL_len s _ ok.regs ok.csrs]
  have H1 : (LR.toArray.all fun x => x.oneCell') = true := by rw [hLR]; exact stL_one s _ _ _
  have RNG : Hid (∀ w, Upd [] zz w → w.rangeAt mb 0 LR.toArray.toList) := Lib.hid (fun w u => by rw [hLR]; exact st_range (M.upd0 u))
  have hL38 : LR[38]? = some (.slice (some ⟨gb, 0, none⟩) 1024 1024) := by rw [hLR, stL_get s _ ok.regs ok.csrs]
  have HSET : Hid (∀ v, LR.set 38 v = stL s v) := Lib.hid (fun v => by rw [hLR, stL_set s _ _ ok.regs ok.csrs])
  have HN : Hid (NumsAt zz .u32 (some ⟨gb, 0, none⟩) s.mem) := Lib.hid (fun _ => ⟨gb, 0, rfl, lt_of_block M.mem, fun i hi => by rw [Nat.zero_add, cells_of M.mem]; exact nums_nth .u32 s.mem i hi⟩)
  have HML := Lib.hid ok.mem
  have HRC := Lib.hid (And.intro ok.regs ok.csrs)
  have HSN : Hid (∀ v, (stL s v).length = 39) := Lib.hid (fun v => stL_len s v ok.regs ok.csrs)
  have B0 := Lib.hid (hl2 zz (.cells (stL ⟨0, List.replicate 32 0, List.replicate 5 0, [], [], false, 0, 0⟩ (.slice none 0 0)).toArray 39) (.cells (stL ⟨0, List.replicate 32 0, List.replicate 5 0, [], [], false, 0, 0⟩ (.slice none 0 0)).toArray 39))
  have R0 := Lib.hid (heap_old (hl1 zz (.cells (stL ⟨0, List.replicate 32 0, List.replicate 5 0, [], [], false, 0, 0⟩ (.slice none 0 0)).toArray 39)) (.cells (stL ⟨0, List.replicate 32 0, List.replicate 5 0, [], [], false, 0, 0⟩ (.slice none 0 0)).toArray 39))
  have U0 := Lib.hid (((Upd.refl [] zz).alloc (.cells (stL ⟨0, List.replicate 32 0, List.replicate 5 0, [], [], false, 0, 0⟩ (.slice none 0 0)).toArray 39)).alloc (.cells (stL ⟨0, List.replicate 32 0, List.replicate 5 0, [], [], false, 0, 0⟩ (.slice none 0 0)).toArray 39))
  clear hLR M ok
  go_enter Try.func10, Try.ntmps10
  go_wp2_with (first
    | go_skip
    | ((with_reducible refine at_op 7 ?_); refine L_load 39 (.tmp 6) rfl (by kernel_rfl) _ _ rfl LR.toArray (RNG.out _ ((Upd.refl [] zz).alloc _)) Try.underlying39 rfl 39 info_state HS ?_)
    | ((with_reducible refine at_st 3 ?_); refine L_store_row 39 (.tmp 3) (.tmp 7) rfl (by kernel_rfl) (zz.heap.size + 1) 0 rfl _ 39 B0.out LR.toArray rfl 39 info_state HS (by decide) H1 ?_))
  intro w1 b1 u1 s1
  rw [spl_all (by rw [HSL]; rfl)] at b1
  have B1' := Lib.hid b1
  have R1' := Lib.hid (u1.keep R0.out (by simp))
  have U1' := Lib.hid (U0.out.then u1 (fun x hx hlt => by simp at hx; omega))
  have hs1 : zz.heap.size + 1 < w1.heap.size := lt_of_block b1
  have c38' : w1.cell? ⟨zz.heap.size + 1, 38, none⟩ = some (.slice (some ⟨gb, 0, none⟩) 1024 1024) := by rw [cells_of b1, List.getElem?_toArray]; exact hL38
  clear b1 u1 s1 B0 R0 U0
  go_wp2_with (fail)
  refine (clone_calls (some ⟨gb, 0, none⟩) s.mem 1024 1024 _ HML.out.symm (HN.out.of_upd U1'.out) (by omega)).mono ?_
  rintro e z1 ⟨B, cap, rfl, n1, u1, hbk, hcp⟩
  have N1 := Lib.hid n1
  have HBK := Lib.hid hbk
  have HCP := Lib.hid hcp
  have U1 := Lib.hid (U1'.out.trans u1)
  have B1 := Lib.hid (u1.keep B1'.out (by simp))
  have R1 := Lib.hid (u1.keep R1'.out (by simp))
  clear n1 u1 B1' R1' U1' hbk hcp c38'
  have c38 : z1.cell? ⟨zz.heap.size + 1, 38, none⟩ = some (.slice (some ⟨gb, 0, none⟩) 1024 1024) := by rw [cells_of B1.out, List.getElem?_toArray]; exact hL38
  have f38 : z1.frozen? ⟨zz.heap.size + 1, 38, none⟩ = false := free_of B1.out 38
  obtain ⟨L2, hL2⟩ : ∃ L2, L2 = stL s (.slice B 1024 cap) := ⟨_, rfl⟩
  have V2 : Hid (Upd [zz.heap.size + 1] z1 (z1.setCell ⟨zz.heap.size + 1, 38, none⟩ (.slice B 1024 cap))) := Lib.hid ((Upd.refl _ _).setCell (p := ⟨zz.heap.size + 1, 38, none⟩) (by simp) _)
  have B2 : Hid ((z1.setCell ⟨zz.heap.size + 1, 38, none⟩ (.slice B 1024 cap)).heap[zz.heap.size + 1]? = some (.cells L2.toArray 39 (0, 0))) := Lib.hid (by
    rw [heap_setCell_eq B1.out, hL2, ← HSET.out]; simp)
  have R2 := Lib.hid (V2.out.keep R1.out (by simp))
  have HS2 : L2.toArray.size = 39 := by rw [hL2, List.size_toArray, HSN.out]
  have HSL2 : L2.length = 39 := by rw [hL2, HSN.out]
  have H12 : (L2.toArray.all fun x => x.oneCell') = true := by rw [hL2]; exact stL_one s _ _ _
  have HL2 := Lib.hid hL2
  clear hL2
  go_wp2_with (first
    | go_skip
    | ((with_reducible refine at_op 12 ?_); refine L_load 39 (.tmp 3) rfl (by kernel_rfl) _ _ rfl L2.toArray (row_all B2.out) Try.underlying39 rfl 39 info_state HS2 ?_)
    | ((with_reducible refine at_st 2 ?_); refine L_store_row 39 (.tmp 2) (.tmp 12) rfl (by kernel_rfl) zz.heap.size 0 rfl _ 39 R2.out L2.toArray rfl 39 info_state HS2 (by decide) H12 ?_))
  intro wA bA uA zA
  rw [spl_all (by rw [HSL2]; rfl)] at bA
  go_wp2_with (fail)
  refine bodyPost_ret (results_cell_row rfl _ _ zz.heap.size 39 L2.toArray _ _ rfl bA Try.underlying39 rfl (by rw [HS2]; exact info_state)) rfl ⟨B, cap, ?_, ⟨HRC.out.1, HRC.out.2, ?_, by show s.mem.length ≤ cap; rw [HML.out]; exact HCP.out.1, HCP.out.2⟩, ?_⟩
  · rw [HL2.out]
    show Ending.returned (.agg (stL s (.slice B 1024 cap)).toArray) = .returned (.agg (stL s (.slice B s.mem.length cap)).toArray)
    rw [HML.out]
  · have hf : ∀ a, B = some a → a.block ≠ zz.heap.size ∧ a.block ≠ zz.heap.size + 1 := fun a ha => by
      have := HBK.out a ha
      omega
    exact numsAt_keep (numsAt_keep N1.out V2.out (fun a ha => by have := hf a ha; simp; omega)) uA (fun a ha => by have := hf a ha; simp; omega)
  · exact (U1.out.then V2.out (fun x hx hlt => by simp at hx; omega)).then uA (fun x hx hlt => by simp at hx; omega)
set_option maxHeartbeats 1000000 in
theorem trace_calls (mb gb base : Nat) (tv : Value) (s : MSt) (zz : World) (M : MachAt mb gb base tv s zz) (ok : MOk s) (ht : s.trace.length ≤ 5000) :
    Calls Try.prog 16 #[.pointer (some ⟨mb, 0, none⟩)] zz fun e z' => ∃ B cap, e = .returned (.slice B s.trace.length cap) ∧ NumsAt z' .u32 B s.trace ∧ Upd [] zz z' ∧ s.trace.length ≤ cap ∧ cap ≤ 9223372036854775807 := by
  have c39 : zz.cell? ⟨mb, 39, none⟩ = some tv := by rw [M.cAt 39, mc_tail s gb tv 1 ok.regs ok.csrs]; rfl
  obtain ⟨A, c, rfl, _, _, hN, _⟩ := M.own.words
  obtain ⟨n, hn⟩ : ∃ n, n = s.trace.length := ⟨_, rfl⟩
  rw [← hn] at c39 ht ⊢
  have HN := Lib.hid hN
  have HL := Lib.hid hn
  clear hN M hn
  go_enter Try.func16, Try.ntmps16
  go_wp2_with (fail)
  refine (clone_calls A s.trace n c zz HL.out HN.out ht).mono ?_
  rintro e z1 ⟨B, cap, rfl, n1, u1, _, hcp⟩
  have N1 := Lib.hid n1
  have U1 := Lib.hid u1
  have HCP := Lib.hid hcp
  clear n1 u1 hcp
  go_wp2_with (fail)
  go_ret
  exact ⟨B, cap, rfl, N1.out, U1.out, HCP.out⟩
set_option maxHeartbeats 1000000 in
theorem steps_calls (mb gb base : Nat) (tv : Value) (s : MSt) (zz : World) (M : MachAt mb gb base tv s zz) (ok : MOk s) :
    Calls Try.prog 13 #[.pointer (some ⟨mb, 0, none⟩)] zz fun e z' => e = .returned (.int .i64 (s.steps : Int)) ∧ z' = zz := by
  have c42 : zz.cell? ⟨mb, 42, none⟩ = some (.int .i64 (s.steps : Int)) := by rw [M.cAt 42, mc_tail s gb tv 4 ok.regs ok.csrs]; rfl
  clear M
  go_enter Try.func13, Try.ntmps13
  go_wp2_with (fail)
  go_ret
  exact ⟨rfl, rfl⟩
set_option maxHeartbeats 1000000 in
theorem halted_calls (mb gb base : Nat) (tv : Value) (s : MSt) (zz : World) (M : MachAt mb gb base tv s zz) (ok : MOk s) :
    Calls Try.prog 11 #[.pointer (some ⟨mb, 0, none⟩)] zz fun e z' => e = .returned (.tuple #[.int .u32 (s.code : Int), .bool s.halted]) ∧ Upd [] zz z' := by
  have n40 : ∀ x : Near [] zz, x.1.cell? ⟨mb, 40, none⟩ = some (.bool s.halted) := fun x => by rw [(M.upd0 x.2).cAt 40, mc_tail s gb tv 2 ok.regs ok.csrs]; rfl
  have n41 : ∀ x : Near [] zz, x.1.cell? ⟨mb, 41, none⟩ = some (.int .u32 (s.code : Int)) := fun x => by rw [(M.upd0 x.2).cAt 41, mc_tail s gb tv 3 ok.regs ok.csrs]; rfl
  clear M
  go_enter Try.func11, Try.ntmps11
  go_wp2_with (fail)
  refine wp_region_plan (fun z => ∃ x : Near [] zz, z = x.1) [] [0, 1, 2, 3, 4, 5, 6, 7, 8, 9] (by kernel_rfl) (by kernel_rfl) (by kernel_rfl) (by kernel_rfl) (fun _ d _ _ _ h => by cases d <;> exact h) ⟨⟨(zz).drew, (Upd.refl _ _).drew⟩, rfl⟩ ?_
  refine plan_last ?_
  simp only [opsAt, List.map_cons, List.map_nil, List.getElem?_toArray, List.getElem?_cons_zero, List.getElem?_cons_succ, Option.getD_some]
  repeat (go_big_quiet_step (fail))
  refine wpQuiet_nil ?_
  unfold planEnd
  go_wp2_with fail
  go_ret2
  exact ⟨rfl, (Upd.refl _ _).drew⟩
end Go.Proofs.Ytggjmdgonjhioaa

namespace Go.Proofs.Ytggjmdgonjhioaa
open Go.RowKit Go.Dio
set_option linter.unusedSimpArgs false
set_option linter.unusedVariables false

def itS (s : MSt) : Nat → MSt
  | 0 => s
  | k + 1 => stepP (itS s k)
theorem itS_inv {s : MSt} (h : MInv s) : ∀ k, MInv (itS s k)
  | 0 => h
  | k + 1 => step_inv (itS_inv h k)
theorem stS_grow (s : MSt) (A d : Nat) (m : Int) : (stS s A d m).trace.length ≤ s.trace.length + 1 ∧ (stS s A d m).steps = s.steps := by
  unfold stS
  split
  · simp
  · split <;> simp
theorem step_grow {s : MSt} (h : MInv s) : (stepP s).trace.length ≤ s.trace.length + 1 ∧ (stepP s).steps ≤ s.steps + 1 ∧ (s.halted = false → (stepP s).steps = s.steps + 1) := by
  by_cases hh : s.halted = true
  · unfold stepP; rw [if_pos hh]; exact ⟨by omega, by omega, fun h => by rw [hh] at h; cases h⟩
  · have hf : s.halted = false := by cases h0 : s.halted; rfl; exact absurd h0 hh
    rw [stepP_eq s h hf]
    split
    · have := stS_grow (regS s) (madeP s).r.addr.toNat (madeP s).r.data.toNat (madeP s).r.mask
      have e1 : (regS s).trace = s.trace := rfl
      have e2 : (regS s).steps = s.steps + 1 := rfl
      rw [e1, e2] at this
      exact ⟨this.1, by omega, fun _ => this.2⟩
    · exact ⟨by show s.trace.length ≤ _; omega, by show s.steps + 1 ≤ _; omega, fun _ => rfl⟩
theorem itS_grow {s : MSt} (h : MInv s) (k : Nat) : (itS s k).trace.length ≤ s.trace.length + k ∧ (itS s k).steps ≤ s.steps + k := by
  induction k with
  | zero => exact ⟨by simp [itS], by simp [itS]⟩
  | succ k ih =>
    have := step_grow (itS_inv h k)
    exact ⟨by show (stepP (itS s k)).trace.length ≤ _; omega, by show (stepP (itS s k)).steps ≤ _; omega⟩
theorem step_calls (mb gb base : Nat) (tv : Value) (s : MSt) (zz : World) (M : MachAt mb gb base tv s zz) (iv : MInv s) (hb : base ≤ zz.heap.size) (ht : s.trace.length ≤ 4000) (hsn : s.steps ≤ 1000000) :
    Calls Try.prog 9 #[.pointer (some ⟨mb, 0, none⟩)] zz fun e z' => e = .returned (.tuple #[.agg (retL (retP s)).toArray, .bool (!s.halted)]) ∧ StR mb gb base tv (stepP s) zz z' := by
  cases hh : s.halted with
  | true =>
    refine (step_halted mb gb base tv s zz M iv.ok hh).mono ?_
    rintro e z' ⟨rfl, u⟩
    have e1 : retP s = ⟨0, 0, 0, false, 0, 0, 0⟩ := by unfold retP; rw [if_pos hh]
    have e2 : stepP s = s := by unfold stepP; rw [if_pos hh]
    rw [e1, e2]
    exact ⟨rfl, tv, M.upd0 u, u.mono (fun x hx _ => by simp at hx), fun g hg => .inl hg⟩
  | false =>
    refine (step_runs mb gb base tv s zz M iv hh hb ht hsn).mono ?_
    rintro e z' ⟨rfl, u⟩
    have e1 : retP s = (madeP s).r := by unfold retP; rw [if_neg (by rw [hh]; decide)]
    rw [e1]
    exact ⟨rfl, u⟩
theorem StR.refl {mb gb base : Nat} {tv : Value} {s : MSt} {w : World} (h : MachAt mb gb base tv s w) : StR mb gb base tv s w w := ⟨tv, h, Upd.refl _ _, fun g hg => .inl hg⟩
theorem StR.after {mb gb base : Nat} {tv tv1 : Value} {s' : MSt} {w w1 w2 : World} (u1 : Upd (mb :: gb :: tv.ownBlock.toList) w w1) (o1 : ∀ g, tv1.ownBlock = some g → tv.ownBlock = some g ∨ w.heap.size ≤ g) (h2 : StR mb gb base tv1 s' w1 w2) : StR mb gb base tv s' w w2 := by
  obtain ⟨tv2, m2, u2, o2⟩ := h2
  refine ⟨tv2, m2, u1.then u2 (fun x hx hlt => ?_), fun g hg => ?_⟩
  · simp only [List.mem_cons, Option.mem_toList] at hx ⊢
    rcases hx with h | h | h
    · exact .inl h
    · exact .inr (.inl h)
    · rcases o1 x h with h3 | h3
      · exact .inr (.inr h3)
      · omega
  · rcases o2 g hg with h3 | h3
    · exact o1 g h3
    · exact .inr (Nat.le_trans u1.size h3)
theorem StR.upd0 {mb gb base : Nat} {tv : Value} {s : MSt} {w w1 w2 : World} (h : StR mb gb base tv s w w1) (u : Upd [] w1 w2) : StR mb gb base tv s w w2 := by
  obtain ⟨tv1, m1, u1, o1⟩ := h
  exact ⟨tv1, m1.upd0 u, u1.then u (fun x hx _ => by cases hx), o1⟩
theorem itS_stay {s : MSt} {k : Nat} (h : (itS s k).halted = true) : itS s (k + 1) = itS s k := by
  show stepP (itS s k) = _
  unfold stepP
  rw [if_pos h]
set_option maxRecDepth 20000 in
set_option maxHeartbeats 4000000 in
theorem run_calls (mb gb base : Nat) (tv : Value) (s : MSt) (zz : World) (M : MachAt mb gb base tv s zz) (iv : MInv s) (n : Nat) (hb : base ≤ zz.heap.size) (ht : s.trace.length + n ≤ 4000) (hsn : s.steps + n ≤ 1000000) :
    Calls Try.prog 8 #[.pointer (some ⟨mb, 0, none⟩), .int .i64 (n : Int)] zz fun e z' => ∃ k : Nat, e = .returned (.int .i64 (k : Int)) ∧ k ≤ n ∧ (∀ j, j < k → (itS s j).halted = false) ∧ (k = n ∨ (itS s k).halted = true) ∧ StR mb gb base tv (itS s k) zz z' := by
  have M0 := Lib.hid M
  clear M
  go_enter Try.func8, Try.ntmps8
  go_wp2_with (fail)
  go_step3
  go_wp2_with (fail)
  go_step3
  go_wp2_with (fail)
  go_loopw [5] (fun v5 wl => ∃ k : Nat, v5 = .int .i64 (k : Int) ∧ k ≤ n ∧ Hid (∀ j, j < k → (itS s j).halted = false) ∧ Hid (StR mb gb base tv (itS s k) zz wl)) (fun v5 _ => n - (intOf v5).toNat)
  case atStart => exact ⟨0, rfl, by omega, Lib.hid (fun j hj => by omega), Lib.hid (StR.refl M0.out)⟩
  case round =>
    obtain ⟨k, rfl, hk, HB, HX⟩ := hrel
    rcases Nat.lt_or_ge k n with hlt | hge
    · obtain ⟨tvk, Mk, Uk, Ok⟩ := HX.out
      have hg := itS_grow iv k
      have hcall := Lib.hid (step_calls mb gb base tvk (itS s k) wr Mk (itS_inv iv k) (Nat.le_trans hb Uk.size) (by omega) (by omega))
      obtain ⟨R, hR⟩ : ∃ R, R = retP (itS s k) := ⟨_, rfl⟩
      obtain ⟨H, hH⟩ : ∃ H, H = (itS s k).halted := ⟨_, rfl⟩
      rw [← hR, ← hH] at hcall
      have HH := Lib.hid hH.symm
      have hd : decide ((k : Int) < (n : Int)) = true := decide_eq_true (by omega)
      have KD : Hid (∀ z1, StR mb gb base tvk (stepP (itS s k)) wr z1 → StR mb gb base tv (itS s (k + 1)) zz z1) := Lib.hid (fun z1 h => StR.after Uk Ok h)
      clear hR hH Mk Uk Ok hg
      cases H
      · go_wp2_with (fail)
        refine hcall.out.mono ?_
        rintro e z1 ⟨rfl, hst⟩
        have HS := Lib.hid (KD.out z1 hst)
        clear hst KD hcall
        go_wp2_with (first
          | go_skip
          | ((with_reducible refine at_st 6 ?_); refine L_store_new 33 (.tmp 6) (.tmp 14) rfl (by kernel_rfl) _ (retL R).toArray rfl rfl 7 info_ret rfl rfl (retL_one _) ?_))
        go_roundw
        case measure => simp [intOf]; omega
        case rel => exact ⟨k + 1, by go_num, by omega, Lib.hid (fun j hj => by
          rcases Nat.lt_or_ge j k with h | h
          · exact HB.out j h
          · obtain rfl : j = k := by omega
            exact HH.out), Lib.hid (HS.out.upd0 ((Upd.refl [] _).alloc _))⟩
      · go_wp2_with (fail)
        refine hcall.out.mono ?_
        rintro e z1 ⟨rfl, hst⟩
        have HS := Lib.hid (KD.out z1 hst)
        clear hst KD hcall
        go_wp2_with (first
          | go_skip
          | ((with_reducible refine at_st 6 ?_); refine L_store_new 33 (.tmp 6) (.tmp 14) rfl (by kernel_rfl) _ (retL R).toArray rfl rfl 7 info_ret rfl rfl (retL_one _) ?_))
        try rw [Exit.noGoto_ret]
        go_ret
        have hs := HS.out
        rw [itS_stay HH.out] at hs
        exact ⟨k, rfl, hk, HB.out, .inr HH.out, hs.upd0 ((Upd.refl [] _).alloc _)⟩
    · obtain rfl : k = n := by omega
      have hd : decide ((k : Int) < (k : Int)) = false := decide_eq_false (by omega)
      go_wp2_with (fail)
      try rw [Exit.noGoto_ret]
      go_ret
      exact ⟨k, rfl, hk, HB.out, .inl rfl, HX.out⟩
end Go.Proofs.Ytggjmdgonjhioaa

namespace Go.Proofs.Ytggjmdgonjhioaa
open Go.RowKit Go.Dio
set_option linter.unusedSimpArgs false
set_option linter.unusedVariables false

structure One (zz : World) (mb gb B : Nat) (s : MSt) (w : World) : Prop where
  ex : ∃ tv, MachAt mb gb B tv s w
  upd : Upd [] zz w
  le : B ≤ w.heap.size
  old : zz.heap.size ≤ mb ∧ zz.heap.size ≤ gb ∧ zz.heap.size ≤ B
theorem One.upd0 {zz : World} {mb gb B : Nat} {s : MSt} {w w' : World} (h : One zz mb gb B s w) (u : Upd [] w w') : One zz mb gb B s w' := by
  obtain ⟨⟨tv, m⟩, a, b, c⟩ := h
  exact ⟨⟨tv, m.upd0 u⟩, a.trans u, Nat.le_trans b u.size, c⟩
theorem One.stR {zz : World} {mb gb B : Nat} {s s' : MSt} {w w' : World} {tv : Value} (h : One zz mb gb B s w) (m : MachAt mb gb B tv s w) (r : StR mb gb B tv s' w w') : One zz mb gb B s' w' := by
  obtain ⟨_, a, b, c⟩ := h
  obtain ⟨tv', m', u, _⟩ := r
  refine ⟨⟨tv', m'⟩, a.then u (fun x hx hlt => ?_), Nat.le_trans b u.size, c⟩
  simp only [List.mem_cons, Option.mem_toList] at hx
  rcases hx with h | h | h
  · omega
  · omega
  · have := (World.ownsRow.lt m.own x h).1; omega
theorem one_step {zz : World} {mb gb B : Nat} {s : MSt} {w : World} (h : One zz mb gb B s w) (iv : MInv s) (ht : s.trace.length ≤ 4000) (hsn : s.steps ≤ 1000000) :
    Calls Try.prog 9 #[.pointer (some ⟨mb, 0, none⟩)] w fun e z' => e = .returned (.tuple #[.agg (retL (retP s)).toArray, .bool (!s.halted)]) ∧ One zz mb gb B (stepP s) z' := by
  obtain ⟨tv, m⟩ := h.ex
  refine (step_calls mb gb B tv s w m iv h.le ht hsn).mono ?_
  rintro e z' ⟨rfl, r⟩
  exact ⟨rfl, h.stR m r⟩
theorem one_stay {zz : World} {mb gb B : Nat} {s : MSt} {w : World} (h : One zz mb gb B s w) (ok : MOk s) (hh : s.halted = true) :
    Calls Try.prog 9 #[.pointer (some ⟨mb, 0, none⟩)] w fun e z' => e = .returned (.tuple #[.agg #[.int .u32 0, .int .u32 0, .int .i64 0, .bool false, .int .u32 0, .int .u32 0, .int .i64 0], .bool false]) ∧ Upd [] w z' := by
  obtain ⟨tv, m⟩ := h.ex
  exact step_halted mb gb B tv s w m ok hh
set_option maxHeartbeats 1000000 in
theorem one_run_stay {zz : World} {mb gb B : Nat} {s : MSt} {w : World} (h : One zz mb gb B s w) (ok : MOk s) (hh : s.halted = true) (n : Nat) :
    Calls Try.prog 8 #[.pointer (some ⟨mb, 0, none⟩), .int .i64 (n : Int)] w fun e z' => e = .returned (.int .i64 0) ∧ Upd [] w z' := by
  have ST := Lib.hid (fun w' (u : Upd [] w w') => one_stay (h.upd0 u) ok hh)
  clear h ok hh
  go_enter Try.func8, Try.ntmps8
  go_wp2_with (fail)
  go_step3
  go_wp2_with (fail)
  go_step3
  go_wp2_with (fail)
  go_loopw [5] (fun v5 wl => v5 = .int .i64 0 ∧ Hid (Upd [] w wl)) (fun v5 _ => 0)
  case atStart => exact ⟨rfl, Lib.hid (Upd.refl _ _)⟩
  case round =>
    obtain ⟨rfl, HU⟩ := hrel
    rcases Nat.eq_zero_or_pos n with h0 | h0
    · subst h0
      go_wp2_with (fail)
      try rw [Exit.noGoto_ret]
      go_ret
      exact ⟨rfl, HU.out⟩
    · have hd : decide ((0 : Int) < (n : Int)) = true := decide_eq_true (by omega)
      have hd' : 0 < n := h0
      go_wp2_with (fail)
      refine (ST.out _ HU.out).mono ?_
      rintro e z1 ⟨rfl, u⟩
      have U1 := Lib.hid (HU.out.trans u)
      clear u HU
      go_wp2_with (fail)
      try rw [Exit.noGoto_ret]
      go_ret
      exact ⟨rfl, U1.out.alloc _⟩
theorem one_run {zz : World} {mb gb B : Nat} {s : MSt} {w : World} (h : One zz mb gb B s w) (iv : MInv s) (n : Nat) (ht : s.trace.length + n ≤ 4000) (hsn : s.steps + n ≤ 1000000) :
    Calls Try.prog 8 #[.pointer (some ⟨mb, 0, none⟩), .int .i64 (n : Int)] w fun e z' => ∃ k : Nat, e = .returned (.int .i64 (k : Int)) ∧ k ≤ n ∧ (∀ j, j < k → (itS s j).halted = false) ∧ (k = n ∨ (itS s k).halted = true) ∧ One zz mb gb B (itS s k) z' := by
  obtain ⟨tv, m⟩ := h.ex
  refine (run_calls mb gb B tv s w m iv n h.le ht hsn).mono ?_
  rintro e z' ⟨k, rfl, hk, hj, he, r⟩
  exact ⟨k, rfl, hk, hj, he, h.stR m r⟩
theorem one_state {zz : World} {mb gb B : Nat} {s : MSt} {w : World} (h : One zz mb gb B s w) (ok : MOk s) :
    Calls Try.prog 10 #[.pointer (some ⟨mb, 0, none⟩)] w fun e z' => ∃ A cap, e = .returned (.agg (StV.arr ⟨s.pc, s.regs, s.csrs, A, s.mem, cap⟩)) ∧ StV.OK ⟨s.pc, s.regs, s.csrs, A, s.mem, cap⟩ z' ∧ Upd [] w z' := by
  obtain ⟨tv, m⟩ := h.ex
  exact state_calls mb gb B tv s w m ok
theorem one_trace {zz : World} {mb gb B : Nat} {s : MSt} {w : World} (h : One zz mb gb B s w) (ok : MOk s) (ht : s.trace.length ≤ 5000) :
    Calls Try.prog 16 #[.pointer (some ⟨mb, 0, none⟩)] w fun e z' => ∃ A cap, e = .returned (.slice A s.trace.length cap) ∧ NumsAt z' .u32 A s.trace ∧ Upd [] w z' ∧ s.trace.length ≤ cap ∧ cap ≤ 9223372036854775807 := by
  obtain ⟨tv, m⟩ := h.ex
  exact trace_calls mb gb B tv s w m ok ht
theorem one_steps {zz : World} {mb gb B : Nat} {s : MSt} {w : World} (h : One zz mb gb B s w) (ok : MOk s) :
    Calls Try.prog 13 #[.pointer (some ⟨mb, 0, none⟩)] w fun e z' => e = .returned (.int .i64 (s.steps : Int)) ∧ z' = w := by
  obtain ⟨tv, m⟩ := h.ex
  exact steps_calls mb gb B tv s w m ok
theorem one_halted {zz : World} {mb gb B : Nat} {s : MSt} {w : World} (h : One zz mb gb B s w) (ok : MOk s) :
    Calls Try.prog 11 #[.pointer (some ⟨mb, 0, none⟩)] w fun e z' => e = .returned (.tuple #[.int .u32 (s.code : Int), .bool s.halted]) ∧ Upd [] w z' := by
  obtain ⟨tv, m⟩ := h.ex
  exact halted_calls mb gb B tv s w m ok
theorem one_new {zz w : World} (u0 : Upd [] zz w) (A : Option Addr) (ns : List Nat) (n c : Nat) (hn : n = ns.length) (hA : NumsAt w .u32 A ns) (hl : n ≤ 1024) :
    Calls Try.prog 6 #[.slice A n c] w fun e z' => ∃ mb gb B, e = .returned (.tuple #[.pointer (some ⟨mb, 0, none⟩), .int .i64 0]) ∧ One zz mb gb B (newS ns) z' ∧ Upd [] w z' := by
  subst hn
  refine (mnew_calls A ns c w hA hl).mono ?_
  rintro e z' ⟨rfl, m, u⟩
  have h1 := lt_of_block m.cell
  have h2 := u0.size
  exact ⟨w.heap.size + 1, w.heap.size, w.heap.size + 2, rfl, ⟨⟨_, m⟩, u0.trans u, by omega, by omega, by omega, by omega⟩, u⟩

structure Blk (zz : World) (m1 g1 m2 g2 B : Nat) : Prop where
  d : m1 ≠ m2 ∧ m1 ≠ g2 ∧ g1 ≠ m2 ∧ g1 ≠ g2
  o : zz.heap.size ≤ m1 ∧ zz.heap.size ≤ g1 ∧ zz.heap.size ≤ m2 ∧ zz.heap.size ≤ g2 ∧ zz.heap.size ≤ B
structure Pr (zz : World) (m1 g1 m2 g2 B : Nat) (sa sb : MSt) (w : World) : Prop where
  ex : ∃ ta tb, MachAt m1 g1 B ta sa w ∧ MachAt m2 g2 B tb sb w ∧ ∀ g, ta.ownBlock = some g → tb.ownBlock = some g → False
  upd : Upd [] zz w
  le : B ≤ w.heap.size
theorem Blk.swap {zz : World} {m1 g1 m2 g2 B : Nat} (h : Blk zz m1 g1 m2 g2 B) : Blk zz m2 g2 m1 g1 B := by
  obtain ⟨⟨a, b, c, d⟩, e, f, g, k, l⟩ := h
  exact ⟨⟨fun h => a h.symm, fun h => c h.symm, fun h => b h.symm, fun h => d h.symm⟩, g, k, e, f, l⟩
theorem Pr.swap {zz : World} {m1 g1 m2 g2 B : Nat} {sa sb : MSt} {w : World} (h : Pr zz m1 g1 m2 g2 B sa sb w) : Pr zz m2 g2 m1 g1 B sb sa w := by
  obtain ⟨⟨ta, tb, ma, mb, hs⟩, a, b⟩ := h
  exact ⟨⟨tb, ta, mb, ma, fun g h1 h2 => hs g h2 h1⟩, a, b⟩
theorem Pr.upd0 {zz : World} {m1 g1 m2 g2 B : Nat} {sa sb : MSt} {w w' : World} (h : Pr zz m1 g1 m2 g2 B sa sb w) (u : Upd [] w w') : Pr zz m1 g1 m2 g2 B sa sb w' := by
  obtain ⟨⟨ta, tb, ma, mb, hs⟩, a, b⟩ := h
  exact ⟨⟨ta, tb, ma.upd0 u, mb.upd0 u, hs⟩, a.trans u, Nat.le_trans b u.size⟩
theorem Pr.fst {zz : World} {m1 g1 m2 g2 B : Nat} {sa sb : MSt} {w : World} (k : Blk zz m1 g1 m2 g2 B) (h : Pr zz m1 g1 m2 g2 B sa sb w) : One zz m1 g1 B sa w := by
  obtain ⟨⟨ta, tb, ma, mb, hs⟩, a, b⟩ := h
  exact ⟨⟨ta, ma⟩, a, b, k.o.1, k.o.2.1, k.o.2.2.2.2⟩
theorem Pr.snd {zz : World} {m1 g1 m2 g2 B : Nat} {sa sb : MSt} {w : World} (k : Blk zz m1 g1 m2 g2 B) (h : Pr zz m1 g1 m2 g2 B sa sb w) : One zz m2 g2 B sb w := h.swap.fst k.swap
theorem Pr.stR {zz : World} {m1 g1 m2 g2 B : Nat} {sa sb sb' : MSt} {w w' : World} {ta tb : Value} (k : Blk zz m1 g1 m2 g2 B) (h : Pr zz m1 g1 m2 g2 B sa sb w) (ma : MachAt m1 g1 B ta sa w) (mb : MachAt m2 g2 B tb sb w)
    (hs : ∀ g, ta.ownBlock = some g → tb.ownBlock = some g → False) (r : StR m2 g2 B tb sb' w w') : Pr zz m1 g1 m2 g2 B sa sb' w' := by
  obtain ⟨_, a, b⟩ := h
  have hk := k.d
  have hko := k.o
  have ht1 := ma.top
  have ht2 := mb.top
  have L1 : ∀ g, ta.ownBlock = some g → B ≤ g ∧ g < w.heap.size := fun g hg => World.ownsRow.lt ma.own g hg
  have L2 : ∀ g, tb.ownBlock = some g → B ≤ g ∧ g < w.heap.size := fun g hg => World.ownsRow.lt mb.own g hg
  obtain ⟨tb', mb', u, o⟩ := r
  have hin : ∀ x, x ∈ m2 :: g2 :: tb.ownBlock.toList → x = m2 ∨ x = g2 ∨ tb.ownBlock = some x := fun x hx => by
    simpa only [List.mem_cons, Option.mem_toList] using hx
  refine ⟨⟨ta, tb', ma.upd u (fun h => ?_) (fun h => ?_) (fun g hg h => ?_), mb', fun g h1 h2 => ?_⟩, a.then u (fun x hx hlt => ?_), Nat.le_trans b u.size⟩
  · rcases hin _ h with h | h | h
    · omega
    · omega
    · have := L2 _ h; omega
  · rcases hin _ h with h | h | h
    · omega
    · omega
    · have := L2 _ h; omega
  · have := L1 g hg
    rcases hin _ h with h | h | h
    · omega
    · omega
    · exact hs g hg h
  · rcases o g h2 with h | h
    · exact hs g h1 h
    · have := L1 g h1; omega
  · rcases hin _ hx with h | h | h
    · omega
    · omega
    · have := L2 _ h; omega
theorem pr_stepB {zz : World} {m1 g1 m2 g2 B : Nat} {sa sb : MSt} {w : World} (k : Blk zz m1 g1 m2 g2 B) (h : Pr zz m1 g1 m2 g2 B sa sb w) (iv : MInv sb) (ht : sb.trace.length ≤ 4000) (hsn : sb.steps ≤ 1000000) :
    Calls Try.prog 9 #[.pointer (some ⟨m2, 0, none⟩)] w fun e z' => e = .returned (.tuple #[.agg (retL (retP sb)).toArray, .bool (!sb.halted)]) ∧ Pr zz m1 g1 m2 g2 B sa (stepP sb) z' := by
  obtain ⟨ta, tb, ma, mb, hs⟩ := h.ex
  refine (step_calls m2 g2 B tb sb w mb iv h.le ht hsn).mono ?_
  rintro e z' ⟨rfl, r⟩
  exact ⟨rfl, h.stR k ma mb hs r⟩
theorem pr_runB {zz : World} {m1 g1 m2 g2 B : Nat} {sa sb : MSt} {w : World} (k : Blk zz m1 g1 m2 g2 B) (h : Pr zz m1 g1 m2 g2 B sa sb w) (iv : MInv sb) (n : Nat) (ht : sb.trace.length + n ≤ 4000) (hsn : sb.steps + n ≤ 1000000) :
    Calls Try.prog 8 #[.pointer (some ⟨m2, 0, none⟩), .int .i64 (n : Int)] w fun e z' => ∃ k : Nat, e = .returned (.int .i64 (k : Int)) ∧ k ≤ n ∧ (∀ j, j < k → (itS sb j).halted = false) ∧ (k = n ∨ (itS sb k).halted = true) ∧ Pr zz m1 g1 m2 g2 B sa (itS sb k) z' := by
  obtain ⟨ta, tb, ma, mb, hs⟩ := h.ex
  refine (run_calls m2 g2 B tb sb w mb iv n h.le ht hsn).mono ?_
  rintro e z' ⟨k, rfl, hk, hj, he, r⟩
  exact ⟨k, rfl, hk, hj, he, h.stR ‹_› ma mb hs r⟩
theorem pr_runA {zz : World} {m1 g1 m2 g2 B : Nat} {sa sb : MSt} {w : World} (k : Blk zz m1 g1 m2 g2 B) (h : Pr zz m1 g1 m2 g2 B sa sb w) (iv : MInv sa) (n : Nat) (ht : sa.trace.length + n ≤ 4000) (hsn : sa.steps + n ≤ 1000000) :
    Calls Try.prog 8 #[.pointer (some ⟨m1, 0, none⟩), .int .i64 (n : Int)] w fun e z' => ∃ k : Nat, e = .returned (.int .i64 (k : Int)) ∧ k ≤ n ∧ (∀ j, j < k → (itS sa j).halted = false) ∧ (k = n ∨ (itS sa k).halted = true) ∧ Pr zz m1 g1 m2 g2 B (itS sa k) sb z' := by
  refine (pr_runB k.swap h.swap iv n ht hsn).mono ?_
  rintro e z' ⟨k, rfl, hk, hj, he, r⟩
  exact ⟨k, rfl, hk, hj, he, r.swap⟩
/-- Two new ones. -/
theorem pr_new {zz w : World} (ns : List Nat) (u0 : Upd [] zz w) (A : Option Addr) (n c : Nat) (hn : n = ns.length) (hA : NumsAt w .u32 A ns) (hl : n ≤ 1024) :
    Calls Try.prog 6 #[.slice A n c] w fun e z' => e = .returned (.tuple #[.pointer (some ⟨w.heap.size + 1, 0, none⟩), .int .i64 0]) ∧ NumsAt z' .u32 A ns ∧ w.heap.size + 1 < z'.heap.size ∧ MachAt (w.heap.size + 1) w.heap.size (w.heap.size + 2) (.slice none 0 0) (newS ns) z' ∧ Upd [] w z' := by
  subst hn
  refine (mnew_calls A ns c w hA hl).mono ?_
  rintro e z' ⟨rfl, m, u⟩
  exact ⟨rfl, hA.of_upd u, lt_of_block m.cell, m, u⟩
theorem pr_two {zz w1 w2 w3 : World} {m1 m2 : Nat} (ns : List Nat) (h0 : Upd [] zz w1) (M1 : MachAt (w1.heap.size + 1) w1.heap.size (w1.heap.size + 2) (.slice none 0 0) (newS ns) w2) (h1 : w1.heap.size + 1 < w2.heap.size) (u1 : Upd [] w1 w2)
    (M2 : MachAt (w2.heap.size + 1) w2.heap.size (w2.heap.size + 2) (.slice none 0 0) (newS ns) w3) (h2 : w2.heap.size + 1 < w3.heap.size) (u2 : Upd [] w2 w3) :
    Blk zz (w1.heap.size + 1) w1.heap.size (w2.heap.size + 1) w2.heap.size w3.heap.size ∧ Pr zz (w1.heap.size + 1) w1.heap.size (w2.heap.size + 1) w2.heap.size w3.heap.size (newS ns) (newS ns) w3 := by
  have hz := h0.size
  have M1' := M1.upd0 u2
  refine ⟨⟨by omega, by omega, by omega, by omega, by omega, by omega⟩, ⟨⟨.slice none 0 0, .slice none 0 0, ⟨M1'.cell, M1'.mem, ⟨rfl, .inl ⟨rfl, rfl⟩⟩, M1'.ne, by omega, by omega⟩, ⟨M2.cell, M2.mem, ⟨rfl, .inl ⟨rfl, rfl⟩⟩, M2.ne, by omega, by omega⟩, fun g h => by cases h⟩, (h0.trans u1).trans u2, Nat.le_refl _⟩⟩
end Go.Proofs.Ytggjmdgonjhioaa

namespace Go.Proofs.Ytggjmdgonjhioaa
open Go.RowKit Go.Dio
set_option linter.unusedSimpArgs false
set_option linter.unusedVariables false

theorem itS_steps {s : MSt} (iv : MInv s) : ∀ k, (∀ j, j < k → (itS s j).halted = false) → (itS s k).steps = s.steps + k
  | 0, _ => rfl
  | k + 1, h => by
    show (stepP (itS s k)).steps = _
    rw [(step_grow (itS_inv iv k)).2.2 (h k (by omega)), itS_steps iv k (fun j hj => h j (by omega))]
    omega
theorem retP_run {s : MSt} (hh : s.halted = false) : retP s = (madeP s).r := by unfold retP; rw [if_neg (by rw [hh]; decide)]
/-- What a step tells of itself. -/
structure RetOk (s : MSt) (v d : Nat) (st : Bool) (A dt : Nat) (mk : Int) : Prop where
  eq : retP s = ⟨(s.pc : Int), (v : Int), (d : Int), st, (A : Int), (dt : Int), mk⟩
  lt : d < 32
  vlt : v < 2 ^ 32
  zero : d = 0 → v = 0
  al : A % 4 = 0
  alt : A < 2 ^ 32
  dlt : dt < 2 ^ 32
  same : d = 0 → (stepP s).regs = s.regs
  tell : st = false → (stepP s).trace = s.trace
  sz : st = true → d = 0
theorem ret_ok {s : MSt} (iv : MInv s) (hh : s.halted = false) : ∃ v d st A dt mk, RetOk s v d st A dt mk := by
  have e := retP_run hh
  have g := (made_good iv).1
  have hs := stepP_eq s iv hh
  obtain ⟨X, hX⟩ : ∃ X, madeP s = X := ⟨_, rfl⟩
  have hr : (regS s).regs = if X.r.rd = 0 then s.regs else s.regs.set X.r.rd.toNat X.r.val.toNat := by unfold regS; rw [hX]
  rw [hX] at e g hs
  obtain ⟨⟨rpc, rv, rrd, rst, ra, rda, rm⟩, nx, cs⟩ := X
  obtain ⟨g1, ⟨n, g2, hn⟩, ⟨k, g3, hk⟩, g4, g5, g6⟩ := g
  dsimp only at g1 g2 g3 g4 g5 g6 e hs hr
  subst g1 g2 g3
  cases rst with
  | true =>
    obtain ⟨h0, A, d, ea, ed, hd, h4, hA⟩ := g5 rfl
    subst ea ed
    have hn0 : n = 0 := by have := g4 h0; omega
    refine ⟨n, k, true, A, d, rm, e, hk, hn, fun _ => hn0, h4, by omega, hd, fun _ => ?_, fun h => (by cases h), fun _ => by omega⟩
    rw [hs, if_pos rfl]
    have e2 : (stS (regS s) (A : Int).toNat (d : Int).toNat rm).regs = (regS s).regs := by
      unfold stS; split; rfl; split; rfl; rfl
    rw [e2, hr, if_pos h0]
  | false =>
    obtain ⟨ea, ed, em⟩ := g6 rfl
    subst ea ed
    refine ⟨n, k, false, 0, 0, rm, e, hk, hn, fun h => by have := g4 (by omega); omega, by decide, by decide, by decide, fun h => ?_, fun _ => ?_, fun h => by cases h⟩
    · rw [hs, if_neg (by decide), hr, if_pos (by omega)]
    · rw [hs, if_neg (by decide)]; rfl
end Go.Proofs.Ytggjmdgonjhioaa

namespace Go.Proofs.Ytggjmdgonjhioaa
open Go.RowKit Go.Dio
set_option linter.unusedSimpArgs false
set_option linter.unusedVariables false

def knownL : List Nat := setL 5 77 ++ (outL 5 ++ stopL 5)
theorem known_runs : (∀ j, j < 8 → (itS (newS knownL) j).halted = false) ∧ (itS (newS knownL) 8).halted = true ∧ (itS (newS knownL) 8).code = 77 ∧ (itS (newS knownL) 8).trace = [77] ∧ (itS (newS knownL) 8).steps = 8 ∧ nth (itS (newS knownL) 8).regs 5 = 77 := by
  decide +kernel
theorem knownL_len : knownL.length = 8 := by decide +kernel
theorem knownL_lt : ∀ x ∈ knownL, x < 2 ^ 32 := by decide +kernel
theorem arr_regs (p : StV) (hr : p.regs.length = 32) : p.arr.extract 1 33 = nums .u32 p.regs := by
  apply Array.ext'
  simp [StV.arr, nums, hr]
theorem run_field_regs (p : StV) (hr : p.regs.length = 32) (w : World) : (Instr.field 39 (.agg p.arr) 1).run Try.prog w = .ok (.agg (nums .u32 p.regs)) w := by
  have h1 : ∀ w, (isAgg 36).run Try.prog w = .ok true w := fun w => by go_simp
  have h2 : ∀ w, (sizeOf 36).run Try.prog w = .ok 32 w := fun w => by go_simp
  have h3 := arr_regs p hr
  simp [Instr.field, run_underlying Try.underlying39, asAgg, part, h1, h2, h3, go_sem]
theorem run_index_regs (l : List Nat) (hr : l.length = 32) (i : Nat) (hi : i < 32) (w : World) : (Instr.index 36 (.agg (nums .u32 l)) (.int .i64 (i : Int))).run Try.prog w = .ok (.int .u32 ((nth l i : Nat) : Int)) w :=
  run_index_nums 36 31 32 .u32 l i Try.underlying36 (fun w => by go_simp) (fun w => by go_simp) hr hi w
set_option maxRecDepth 20000 in
set_option maxHeartbeats 8000000 in
theorem known_calls (zz : World) :
    Calls Try.prog 14 #[] zz fun e z' => e = .returned (.bool true) ∧ Upd [] zz z' := by
  obtain ⟨Z, hZ, hmk0⟩ := ex_rep 1025 (by decide)
  have hmk : ∀ u : World, (Instr.makeSlice 23 (.int .i64 1025) (.int .i64 1025)).run Try.prog u = .ok (.slice (some ⟨u.heap.size, 0, none⟩) 1025 1025) (u.alloc (.cells (nums .u32 Z) 31)) := hmk0
  clear hmk0 hZ
  obtain ⟨P, hP⟩ : ∃ P, P = knownL := ⟨_, rfl⟩
  have HP : Hid (P = setL 5 77 ++ (outL 5 ++ stopL 5)) := Lib.hid (by rw [hP]; rfl)
  have HPL : Hid (P.length = 8) := Lib.hid (by rw [hP]; exact knownL_len)
  have HPT : Hid (∀ x ∈ P, x < 2 ^ 32) := Lib.hid (by rw [hP]; exact knownL_lt)
  have HPR : Hid ((∀ j, j < 8 → (itS (newS P) j).halted = false) ∧ (itS (newS P) 8).halted = true ∧ (itS (newS P) 8).code = 77 ∧ (itS (newS P) 8).trace = [77] ∧ (itS (newS P) 8).steps = 8 ∧ nth (itS (newS P) 8).regs 5 = 77) := Lib.hid (by rw [hP]; exact known_runs)
  clear hP
  go_enter Try.func14, Try.ntmps14
  go_wp2_with (fail)
  refine (Set_calls 5 77 _ (by decide) (by decide)).mono ?_
  rintro e w1 ⟨A1, c1, rfl, O1, u1⟩
  have O1' := Lib.hid O1
  have U1 := Lib.hid u1
  clear O1 u1
  go_wp2_with (fail)
  refine (Out_calls 5 _ (by decide)).mono ?_
  rintro e w2 ⟨A2, c2, rfl, O2, u2⟩
  have O12 := Lib.hid (O1'.out.upd u2 (fun g hg => by simp at hg))
  have L1 := Lib.hid (fun g hg => (World.ownsRow.lt O1'.out g hg))
  have O2' := Lib.hid O2
  have U2 := Lib.hid (U1.out.trans u2)
  have hs23 : w1.heap.size ≤ w2.heap.size := u2.size
  have hs01 := U1.out.size
  clear O2 u2 O1' U1
  go_wp2_with (fail)
  refine (Stop_calls 5 _ (by decide)).mono ?_
  rintro e w3 ⟨A3, c3, rfl, O3, u3⟩
  have O13 := Lib.hid (O12.out.upd u3 (fun g hg => by simp at hg))
  have O23 := Lib.hid (O2'.out.upd u3 (fun g hg => by simp at hg))
  have L2 := Lib.hid (fun g hg => (World.ownsRow.lt O2'.out g hg))
  have N3 := Lib.hid O3.nat
  have U3 := Lib.hid (U2.out.trans u3)
  have hs3 : w2.heap.size ≤ w3.heap.size := u3.size
  clear O3 u3 O12 O2' U2
  have hl3 : (outL 5).length + (stopL 5).length ≤ 5000 := by simp [outL, stopL, setL]
  have hl5 : (setL 5 77).length + (outL 5 ++ stopL 5).length ≤ 5000 := by simp [outL, stopL, setL]
  go_wp2_with (first | go_skip | ((with_reducible refine at_op 15 ?_); refine L_app (.tmp 13) (.tmp 14) rfl (by kernel_rfl) w1.heap.size _ (outL 5) rfl O23.out _ _ _ (stopL 5) rfl rfl N3.out hl3 (Nat.le_trans hs23 hs3) ?_))
  intro v4 w4 O4 u4
  obtain ⟨A4, c4, rfl, _, _, N4, _⟩ := O4.words
  have O14 := Lib.hid (own_upd O13.out u4 (fun g hg hs => by
    have h1 := L1.out g hg
    have h2 := L2.out g (by simpa using hs)
    omega))
  have N4' := Lib.hid N4
  have U4 := Lib.hid (U3.out.then u4 (fun x hx hlt => by
    have h2 := L2.out x (by simpa using hx)
    omega))
  have L4 := Lib.hid (fun g hg => (World.ownsRow.lt O4 g hg))
  clear O4 u4 N4 O13 O23 N3 U3 L1 L2
  go_wp2_with (first | go_skip | ((with_reducible refine at_op 16 ?_); refine L_app (.tmp 12) (.tmp 15) rfl (by kernel_rfl) zz.heap.size _ (setL 5 77) rfl O14.out _ _ _ (outL 5 ++ stopL 5) rfl rfl N4'.out hl5 U4.out.size ?_))
  intro v5 w5 O5 u5
  have U5 := Lib.hid (U4.out.then u5 (fun x hx hlt => by
    have h2 := World.ownsRow.lt O14.out x (by simpa using hx)
    omega))
  rw [← HP.out] at O5
  obtain ⟨A5, c5, rfl, _, _, N5, _⟩ := O5.words
  have N5' := Lib.hid N5
  clear O5 u5 N5 O14 N4' U4 L4
  obtain ⟨n, hn⟩ : ∃ n, n = P.length := ⟨_, rfl⟩
  have HPL2 := HPL
  rw [← hn] at HPL ⊢
  have HN := Lib.hid hn
  clear hn
  have hn8 : n ≤ 1024 := by rw [HPL.out]; decide
  go_wp2_with (fail)
  refine (one_new U5.out A5 P n c5 HN.out N5'.out hn8).mono ?_
  rintro e w6 ⟨mb, gb, B, rfl, o6, u6⟩
  have O6 := Lib.hid o6
  clear o6 u6 N5' U5
  go_wp2_with (fail)
  refine (mnew_long _ 1025 1025 _ (by decide)).mono ?_
  rintro e w7 ⟨rfl, rfl⟩
  go_wp2_with (fail)
  have IV := newS_inv (ns := P) (by rw [HPL2.out]; decide) HPT.out
  have PR := Lib.hid (And.intro HPR.out IV)
  obtain ⟨s0, hs0⟩ : ∃ s0, s0 = newS P := ⟨_, rfl⟩
  have st0 : s0.trace.length = 0 := by rw [hs0]; rfl
  have ss0 : s0.steps = 0 := by rw [hs0]; rfl
  rw [← hs0] at O6 PR IV
  refine (one_run (O6.out.upd0 ((Upd.refl [] _).alloc _)) IV 100 (by omega) (by omega)).mono ?_
  rintro e w7 ⟨k, rfl, hk, hj, he, o7⟩
  have hk8 : k = 8 := by
    rcases Nat.lt_trichotomy k 8 with h | h | h
    · rcases he with h2 | h2
      · omega
      · rw [PR.out.1.1 k h] at h2; cases h2
    · exact h
    · have := hj 8 h; rw [PR.out.1.2.1] at this; cases this
  subst hk8
  have iv8 := itS_inv IV 8
  obtain ⟨_, p1, p2, p3, p4, p5⟩ := PR.out.1
  obtain ⟨S, hS⟩ : ∃ S, S = itS s0 8 := ⟨_, rfl⟩
  rw [← hS] at iv8 p1 p2 p3 p4 p5 o7
  have O7 := Lib.hid o7
  have OK := Lib.hid iv8.ok
  have H7 : Hid (Calls _ _ _ _ _) := Lib.hid (one_halted o7 iv8.ok)
  rw [p1, p2] at H7
  have P3 := Lib.hid p3
  have P4 := Lib.hid p4
  have P5 := Lib.hid p5
  have P1 := Lib.hid p1
  clear hj he o7 iv8 p1 p2 p3 p4 p5 hS PR IV O6 st0 ss0 hs0 hk
  go_wp2_with (fail)
  refine H7.out.mono ?_
  rintro e w8 ⟨rfl, u8⟩
  have O8 := Lib.hid (O7.out.upd0 u8)
  clear u8 O7 H7
  go_wp2_with (fail)
  have T8 : Hid (Calls Try.prog 16 #[.pointer (some ⟨mb, 0, none⟩)] w8 fun e z' => ∃ A cap, e = .returned (.slice A 1 cap) ∧ NumsAt z' .u32 A [77] ∧ Upd [] w8 z' ∧ 1 ≤ cap ∧ cap ≤ 9223372036854775807) := Lib.hid (by
    have h := one_trace O8.out OK.out (by rw [P3.out]; decide)
    rw [P3.out] at h
    exact h)
  refine T8.out.mono ?_
  rintro e w9 ⟨A9, c9, rfl, n9, u9, _⟩
  obtain ⟨b, o, rfl, hb, hc⟩ := n9 (by decide)
  have N9 : Hid (NumsAt w9 .u32 (some ⟨b, o, none⟩) [77]) := Lib.hid n9
  have O9 := Lib.hid (O8.out.upd0 u9)
  clear u9 n9 hb hc T8 O8
  go_wp2_with (fail)
  refine (one_stay O9.out OK.out P1.out).mono ?_
  rintro e w10 ⟨rfl, u10⟩
  have O10 := Lib.hid (O9.out.upd0 (u10.alloc (.cells #[.int .u32 0, .int .u32 0, .int .i64 0, .bool false, .int .u32 0, .int .u32 0, .int .i64 0] 33)))
  have N10 := Lib.hid (N9.out.of_upd (u10.alloc (.cells #[.int .u32 0, .int .u32 0, .int .i64 0, .bool false, .int .u32 0, .int .u32 0, .int .i64 0] 33)))
  clear u10 O9 N9
  go_upto_region 9 with (fail)
  generalize hW : World.alloc w10 _ = W
  have hW2 : w10.alloc (.cells #[.int .u32 0, .int .u32 0, .int .i64 0, .bool false, .int .u32 0, .int .u32 0, .int .i64 0] 33) = W := hW
  rw [hW2] at O10 N10
  clear hW hW2
  have c0 : W.cell? ⟨b, o, none⟩ = some (.int .u32 77) := by
    obtain ⟨b', o', hA, _, hc⟩ := N10.out (by decide)
    injection hA with hA
    injection hA with e1 e2
    subst e1 e2
    exact hc 0 (by decide)
  have S10 : Hid (Calls Try.prog 13 #[.pointer (some ⟨mb, 0, none⟩)] W fun e z' => e = .returned (.int .i64 8) ∧ z' = W) := Lib.hid (by
    have h := one_steps O10.out OK.out
    rw [P4.out] at h
    exact h)
  go_wp2_with (fail)
  refine S10.out.mono ?_
  rintro e z1 ⟨rfl, rfl⟩
  go_wp2_with (fail)
  refine (one_state O10.out OK.out).mono ?_
  rintro e w11 ⟨A11, c11, rfl, ok11, u11⟩
  have U11 := Lib.hid (O10.out.upd.trans u11)
  have F1 : ∀ w, (Instr.field 39 (.agg (StV.arr ⟨S.pc, S.regs, S.csrs, A11, S.mem, c11⟩)) 1).run Try.prog w = .ok (.agg (nums .u32 S.regs)) w := run_field_regs ⟨S.pc, S.regs, S.csrs, A11, S.mem, c11⟩ OK.out.regs
  have F2 : ∀ w, (Instr.index 36 (.agg (nums .u32 S.regs)) (.int .i64 5)).run Try.prog w = .ok (.int .u32 77) w := fun w => by
    have h := run_index_regs S.regs OK.out.regs 5 (by decide) w
    rw [P5.out] at h
    exact h
  clear ok11 u11
  go_wp2_with (fail)
  go_ret
  exact ⟨rfl, U11.out⟩
end Go.Proofs.Ytggjmdgonjhioaa
