/- A plain machine, in memory. -/
import Derived.Test.YtggjmdgonjhioaaStpF
import Derived.Test.YtggjmdgonjhioaaKeeM
import Derived.Test.YtggjmdgonjhioaaSeg
namespace Go.Proofs.Ytggjmdgonjhioaa
open Go.RowKit Go.Dio
set_option linter.unusedSimpArgs false
set_option linter.unusedVariables false

def mcells (s : MSt) (gb : Nat) (tv : Value) : List Value :=
  .int .u32 (s.pc : Int) :: (vals .u32 s.regs ++ (vals .u32 s.csrs ++ [.slice (some ⟨gb, 0, none⟩) 1024 1024, tv, .bool s.halted, .int .u32 (s.code : Int), .int .i64 (s.steps : Int)]))
/-- What a machine's numbers are. -/
structure MOk (s : MSt) : Prop where
  regs : s.regs.length = 32
  csrs : s.csrs.length = 5
  mem : s.mem.length = 1024
  pc : s.pc < 2 ^ 32
  rlt : ∀ x ∈ s.regs, x < 2 ^ 32
  clt : ∀ x ∈ s.csrs, x < 2 ^ 32
  mlt : ∀ x ∈ s.mem, x < 2 ^ 32
  tlt : ∀ x ∈ s.trace, x < 2 ^ 32
  code : s.code < 2 ^ 32
/-- It lies in memory: its record, its words, its row of what was told. -/
structure MachAt (mb gb base : Nat) (tv : Value) (s : MSt) (w : World) : Prop where
  cell : w.heap[mb]? = some (.cells (mcells s gb tv).toArray 51 (0, 0))
  mem : w.heap[gb]? = some (.cells (nums .u32 s.mem) 31 (0, 0))
  own : Ow base w tv s.trace
  ne : gb ≠ mb
  top : mb < base ∧ gb < base
theorem mc_pc (s : MSt) (gb : Nat) (tv : Value) : (mcells s gb tv)[0]? = some (.int .u32 (s.pc : Int)) := rfl
theorem mc_reg (s : MSt) (gb : Nat) (tv : Value) (j : Nat) (hr : s.regs.length = 32) (hj : j < 32) : (mcells s gb tv)[1 + j]? = some (.int .u32 ((nth s.regs j : Nat) : Int)) := by
  have h : j < s.regs.length := by omega
  rw [mcells, Nat.add_comm, List.getElem?_cons_succ, List.getElem?_append_left (by rw [vals_length]; exact h), nth_eq _ _ h]
  simp [vals, h]
theorem mc_csr (s : MSt) (gb : Nat) (tv : Value) (j : Nat) (hr : s.regs.length = 32) (hc : s.csrs.length = 5) (hj : j < 5) : (mcells s gb tv)[33 + j]? = some (.int .u32 ((nth s.csrs j : Nat) : Int)) := by
  have h : j < s.csrs.length := by omega
  rw [mcells, show 33 + j = (32 + j) + 1 by omega, List.getElem?_cons_succ, List.getElem?_append_right (by rw [vals_length]; omega), vals_length, hr, show 32 + j - 32 = j by omega,
    List.getElem?_append_left (by rw [vals_length]; exact h), nth_eq _ _ h]
  simp [vals, h]
theorem mc_tail (s : MSt) (gb : Nat) (tv : Value) (j : Nat) (hr : s.regs.length = 32) (hc : s.csrs.length = 5) :
    (mcells s gb tv)[38 + j]? = [Value.slice (some ⟨gb, 0, none⟩) 1024 1024, tv, .bool s.halted, .int .u32 (s.code : Int), .int .i64 (s.steps : Int)][j]? := by
  rw [mcells, show 38 + j = (32 + (5 + j)) + 1 by omega, List.getElem?_cons_succ, List.getElem?_append_right (by rw [vals_length]; omega), vals_length, hr, show 32 + (5 + j) - 32 = 5 + j by omega,
    List.getElem?_append_right (by rw [vals_length]; omega), vals_length, hc, show 5 + j - 5 = j by omega]
theorem MachAt.upd {mb gb base : Nat} {tv : Value} {s : MSt} {w w' : World} {S : List Nat} (h : MachAt mb gb base tv s w) (u : Upd S w w') (h1 : mb ∉ S) (h2 : gb ∉ S) (h3 : ∀ g, tv.ownBlock = some g → g ∉ S) : MachAt mb gb base tv s w' :=
  ⟨u.keep h.cell h1, u.keep h.mem h2, own_upd h.own u h3, h.ne, h.top⟩
theorem MachAt.upd0 {mb gb base : Nat} {tv : Value} {s : MSt} {w w' : World} (h : MachAt mb gb base tv s w) (u : Upd [] w w') : MachAt mb gb base tv s w' := h.upd u (by simp) (by simp) (by simp)
theorem MachAt.cAt {mb gb base : Nat} {tv : Value} {s : MSt} {w : World} (h : MachAt mb gb base tv s w) (j : Nat) : w.cell? ⟨mb, j, none⟩ = (mcells s gb tv)[j]? := by
  rw [cells_of h.cell]; simp
theorem info_mach : (Try.prog.info? 51).map (·.size) = some 43 := by kernel_rfl
theorem info_state : (Try.prog.info? 39).map (·.size) = some 39 := by kernel_rfl
/-- What is loaded does not matter where nothing is. -/
theorem doI_word (pc w a b : Nat) (cs : List Nat) (v v' : Nat) (D : InstV) (x : Nat) (h : LdI D a x false) : doI pc w a b cs v D = doI pc w a b cs v' D := by
  have h2 := h.2 rfl
  unfold doI
  have hm : 11 ≤ D.op ∧ D.op ≤ 18 → moveP pc a b cs D v = moveP pc a b cs D v' := by
    intro hop
    unfold moveP
    by_cases hb : (accessP D.op (u32 ((a : Int) + D.imm))).2 = true
    · rw [if_pos hb, if_pos hb]
    · rw [if_neg hb, if_neg hb]
      have : ¬ D.op ≤ 15 := by
        rcases h2 with h | h | h
        · omega
        · omega
        · exact absurd h hb
      rw [if_neg this, if_neg this]
  by_cases hop : 11 ≤ D.op ∧ D.op ≤ 18
  · simp only [hm hop]
  · simp only [if_neg hop]
end Go.Proofs.Ytggjmdgonjhioaa

namespace Go.Proofs.Ytggjmdgonjhioaa
open Go.RowKit Go.Dio
set_option linter.unusedSimpArgs false
set_option linter.unusedVariables false

theorem nthB2 {l : List Nat} {B : Nat} (h : ∀ x ∈ l, x < B) (hB : 0 < B) (k : Nat) : nth l k < B := by
  by_cases hk : k < l.length
  · rw [nth_eq l k hk]; exact h _ (List.getElem_mem hk)
  · rw [show nth l k = 0 by simp [nth, show l.length ≤ k by omega]]; exact hB
theorem access_in {op addr : Nat} (h : (accessP op addr).2 = false) (h1 : 11 ≤ op) (h2 : op ≤ 15) : addr < 4096 := by
  have hf := access_ok h ⟨h1, by omega⟩
  unfold accessP at h
  have hs : sizeP op ≠ 0 := by
    rcases (by omega : op = 11 ∨ op = 12 ∨ op = 13 ∨ op = 14 ∨ op = 15) with rfl | rfl | rfl | rfl | rfl <;> decide
  rw [if_neg hs, if_neg (by rw [hf]; decide)] at h
  by_cases hc : addr < 4096 ∨ (op = 18 ∧ devP addr = true)
  · omega
  · rw [if_neg hc] at h; cases h
/-- The worlds near one in which a cell holds a number. -/
def CelN (b : Nat) (W : World) : Type := { w' : World // Upd [b] W w' ∧ w'.cell? ⟨b, 1, none⟩ = W.cell? ⟨b, 1, none⟩ }
instance (b : Nat) (W : World) : Nonempty (CelN b W) := ⟨⟨W, Upd.refl _ _, rfl⟩⟩
theorem csr_range {mb gb base : Nat} {tv : Value} {s : MSt} {w : World} (h : MachAt mb gb base tv s w) (ok : MOk s) : w.rangeAt mb 33 (csV s.csrs) := fun j v hv => by
  rw [h.cAt (33 + j)]
  have hj : j < 5 := (List.getElem?_eq_some_iff.1 hv).1
  rw [mc_csr s gb tv j ok.regs ok.csrs hj]
  match j, hv with
  | 0, hv => exact hv
  | 1, hv => exact hv
  | 2, hv => exact hv
  | 3, hv => exact hv
  | 4, hv => exact hv
set_option maxRecDepth 20000 in
set_option maxHeartbeats 8000000 in
theorem made_calls (mb gb base : Nat) (tv : Value) (s : MSt) (zz : World) (M : MachAt mb gb base tv s zz) (ok : MOk s) :
    Calls Try.prog 18 #[.pointer (some ⟨mb, 0, none⟩)] zz fun e z' => e = .returned (.agg (madeP s).cells.toArray) ∧ Upd [] zz z' := by
  have hlt := lt_of_block M.cell
  have hgl := lt_of_block M.mem
  have hown : ∀ g, tv.ownBlock = some g → g < zz.heap.size := fun g hg => (World.ownsRow.lt M.own g hg).2
  go_enter Try.func18, Try.ntmps18
  go_wp2_with (fail)
  have MW := Lib.hid (M.upd0 ((Upd.refl [] zz).alloc (.cells zMade.cells.toArray 53)))
  have R0 := Lib.hid (hl1 zz (.cells zMade.cells.toArray 53))
  have UW := Lib.hid ((Upd.refl [] zz).alloc (.cells zMade.cells.toArray 53))
  have hs : (zz.alloc (.cells zMade.cells.toArray 53)).heap.size = zz.heap.size + 1 := by simp
  generalize hW : World.alloc zz _ = W
  have hW2 : zz.alloc (.cells zMade.cells.toArray 53) = W := hW
  rw [hW2] at MW R0 UW hs
  clear hW hW2 M
  have n0 : ∀ x : Near [] W, x.1.cell? ⟨mb, 0, none⟩ = some (.int .u32 (s.pc : Int)) := fun x => by rw [(MW.out.upd0 x.2).cAt 0]; rfl
  have R1 := Lib.hid (fun x : Near [] W => csr_range (MW.out.upd0 x.2) ok)
  refine wp_region_plan (fun z => ∃ x : Near [] W, z = x.1) [([0, 1, 2, 3, 4, 5, 6, 7, 8, 9, 10], 11), ([], 12)] [] (by kernel_rfl) (by kernel_rfl) (by kernel_rfl) (by kernel_rfl) (fun _ d _ _ _ h => by cases d <;> exact h) ⟨⟨(W).drew, (Upd.refl _ _).drew⟩, rfl⟩ ?_
  refine plan_next ?_
  simp only [opsAt, List.map_cons, List.map_nil, List.getElem?_toArray, List.getElem?_cons_zero, List.getElem?_cons_succ, Option.getD_some]
  repeat (first
    | go_big_quiet_step (fail)
    | (refine Q_load 37 (.tmp 17) rfl (by kernel_rfl) _ _ rfl #[.int .u32 ((nth s.csrs 0 : Nat) : Int), .int .u32 ((nth s.csrs 1 : Nat) : Int), .int .u32 ((nth s.csrs 2 : Nat) : Int), .int .u32 ((nth s.csrs 3 : Nat) : Int), .int .u32 ((nth s.csrs 4 : Nat) : Int)] (by rintro _ ⟨y, rfl⟩; exact R1.out y) Try.underlying37 rfl 5 info_c5 rfl ?_; go_simp))
  refine wpQuiet_nil ?_
  refine plan_one rfl ?_
  go_wp2_with fail
  have hsz : W.heap.size = W.heap.size := rfl
  refine plan_same ⟨⟨_, ((Upd.refl [] W).alloc _).drew⟩, rfl⟩ ?_
  refine plan_next ?_
  simp only [opsAt, List.map_cons, List.map_nil, List.getElem?_toArray, List.getElem?_cons_zero, List.getElem?_cons_succ, Option.getD_some]
  repeat (go_big_quiet_step (fail))
  refine wpQuiet_nil ?_
  refine plan_one rfl ?_
  go_wp2_with fail
  refine plan_same ⟨⟨_, ((Upd.refl [] W).alloc _).drew⟩, rfl⟩ ?_
  refine plan_last ?_
  simp only [opsAt, List.map_cons, List.map_nil, List.getElem?_toArray, List.getElem?_cons_zero, List.getElem?_cons_succ, Option.getD_some]
  repeat (go_big_quiet_step (fail))
  refine wpQuiet_nil ?_
  unfold planEnd
  have HS := Lib.hid (hl1 W (.cells (seenC s.pc 0 0 0 s.csrs).toArray 69))
  rw [hs] at HS
  have VX := Lib.hid (((Upd.refl [] W).alloc (.cells (seenC s.pc 0 0 0 s.csrs).toArray 69)).drew)
  generalize hX : World.drew (World.alloc W _) = X
  have hX2 : (W.alloc (.cells (seenC s.pc 0 0 0 s.csrs).toArray 69)).drew = X := hX
  have HSX : Hid (X.heap[zz.heap.size + 1]? = some (.cells (seenC s.pc 0 0 0 s.csrs).toArray 69 (0, 0))) := Lib.hid (by rw [← hX2]; exact HS.out)
  rw [hX2] at VX
  have MX := Lib.hid (MW.out.upd0 VX.out)
  have RX := Lib.hid (VX.out.keep R0.out (by simp))
  have UX := Lib.hid (UW.out.trans VX.out)
  clear hX hX2 HS VX MW R0 UW n0 R1 hs hsz
  have p0 : X.cell? ⟨zz.heap.size + 1, 0, none⟩ = some (.int .u32 (s.pc : Int)) := by rw [cells_of HSX.out]; rfl
  have F := Lib.hid (fun z => fetch_calls s.pc z ok.pc)
  cases hf : (fetchP s.pc).2
  · rw [hf] at F
    go_wp2_with (fail)
    refine (F.out _).mono ?_
    rintro e z1 ⟨rfl, rfl⟩
    go_wp2_with (fail)
    have hfp : s.pc % 4 = 0 ∧ s.pc < 4096 := by
      unfold fetchP at hf
      by_cases h1 : s.pc % 4 ≠ 0
      · rw [if_pos h1] at hf; cases hf
      · rw [if_neg h1] at hf
        by_cases h2 : 4096 ≤ s.pc
        · rw [if_pos h2] at hf; cases hf
        · omega
    have HE := Lib.hid (show madeP s = doP s.pc (nth s.mem (s.pc / 4)) (nth s.regs (fb (nth s.mem (s.pc / 4)) 15 5)) (nth s.regs (fb (nth s.mem (s.pc / 4)) 20 5)) s.csrs (nth s.mem (u32 (((nth s.regs (fb (nth s.mem (s.pc / 4)) 15 5) : Nat) : Int) + (decodeP (nth s.mem (s.pc / 4))).imm) / 4)) by unfold madeP; rw [if_neg (by rw [hf]; decide)])
    clear hf F p0
    have q1 : (s.pc : Int) / 4 = ((s.pc / 4 : Nat) : Int) := by omega
    have q2 : (s.pc : Int).tdiv 4 = ((s.pc / 4 : Nat) : Int) := by rw [Int.tdiv_eq_ediv_of_nonneg (by omega)]; omega
    have hq : s.pc / 4 < 1024 := by omega
    have b1 : decide (((s.pc / 4 : Nat) : Int) < 1024) = true := decide_eq_true (by omega)
    have n0 : ∀ x : Near [] z1, x.1.cell? ⟨zz.heap.size + 1, 0, none⟩ = some (.int .u32 (s.pc : Int)) := fun x => by rw [cells_of (x.2.keep HSX.out (by simp))]; rfl
    have n38 : ∀ x : Near [] z1, x.1.cell? ⟨mb, 38, none⟩ = some (.slice (some ⟨gb, 0, none⟩) 1024 1024) := fun x => by rw [(MX.out.upd0 x.2).cAt 38, mc_tail s gb tv 0 ok.regs ok.csrs]; rfl
    have nw : ∀ x : Near [] z1, x.1.cell? ⟨gb, s.pc / 4, none⟩ = some (.int .u32 ((nth s.mem (s.pc / 4) : Nat) : Int)) := fun x => by
      rw [cells_of (x.2.keep MX.out.mem (by simp))]; exact nums_nth .u32 s.mem _ (by rw [ok.mem]; exact hq)
    have hwl : nth s.mem (s.pc / 4) < 2 ^ 32 := nthB2 ok.mlt (by decide) _
    generalize nth s.mem (s.pc / 4) = w at *
    generalize s.pc / 4 = q at *
    refine wp_region_segs [([], [0, 1, 2, 3, 4, 5, 6, 7, 8, 9, 10]), ([([], 11)], [])] (by kernel_rfl) (by kernel_rfl) (by kernel_rfl) (by kernel_rfl) (fun _ d _ _ _ h => by cases d <;> exact h) ?_
    refine segs_part (fun z => ∃ x : Near [] z1, z = x.1) ⟨⟨_, (Upd.refl _ _).drew⟩, rfl⟩ ?_
    refine part_last ?_
    simp only [opsAt, List.map_cons, List.map_nil, List.getElem?_toArray, List.getElem?_cons_zero, List.getElem?_cons_succ, Option.getD_some]
    repeat (go_big_quiet_step (fail))
    refine wpQuiet_nil ?_
    unfold partEnd
    clear n0 n38 nw
    refine segs_part (fun z => ∃ x : Near [zz.heap.size + 1] z1, z = x.1) ⟨⟨_, (Upd.refl _ _).drew⟩, rfl⟩ ?_
    refine part_next ?_
    simp only [opsAt, List.map_cons, List.map_nil, List.getElem?_toArray, List.getElem?_cons_zero, List.getElem?_cons_succ, Option.getD_some]
    repeat (go_big_quiet_step (fail))
    refine wpQuiet_nil ?_
    refine part_one rfl ?_
    refine L_store_int 31 (.tmp 42) (.tmp 41) rfl (by kernel_rfl) (zz.heap.size + 1) 1 rfl (seenC s.pc 0 0 0 s.csrs) 69 (show (World.drew z1).heap[zz.heap.size + 1]? = _ from HSX.out) .u32 (w : Int) rfl info_u1 (show 1 < 9 by decide) ?_
    intro w2 b2 u2 z2
    have HS2 : Hid (w2.heap[zz.heap.size + 1]? = some (.cells (seenC s.pc w 0 0 s.csrs).toArray 69 (0, 0))) := Lib.hid b2
    have V2 := Lib.hid (((Upd.refl [zz.heap.size + 1] z1).drew).trans u2)
    have M2 := Lib.hid (MX.out.upd V2.out (by simp; omega) (by simp; omega) (fun g hg hm => by simp at hm; have := hown g hg; omega))
    refine part_same ⟨⟨_, V2.out⟩, rfl⟩ ?_
    refine part_last ?_
    simp only [opsAt, List.map_cons, List.map_nil, List.getElem?_toArray, List.getElem?_cons_zero, List.getElem?_cons_succ, Option.getD_some]
    repeat (go_big_quiet_step (fail))
    refine wpQuiet_nil ?_
    unfold partEnd
    refine segs_end ?_
    have U2 := Lib.hid (UX.out.then V2.out (fun x hx hlt => by simp at hx; omega))
    have R2 := Lib.hid (V2.out.keep RX.out (by simp))
    clear b2 u2 z2 V2 HSX MX RX UX
    have hfa := fb5 w 15
    have hfb := fb5 w 20
    have BA := Lib.hid (fun z => fBits_calls w 15 5 z hwl (by decide) (by decide) (by decide))
    have BB := Lib.hid (fun z => fBits_calls w 20 5 z hwl (by decide) (by decide) (by decide))
    have hal : nth s.regs (fb w 15 5) < 2 ^ 32 := nthB2 ok.rlt (by decide) _
    have hbl : nth s.regs (fb w 20 5) < 2 ^ 32 := nthB2 ok.rlt (by decide) _
    have c1 : w2.cell? ⟨zz.heap.size + 1, 1, none⟩ = some (.int .u32 (w : Int)) := by rw [cells_of HS2.out]; rfl
    have n1 : ∀ x : CelN (zz.heap.size + 1) w2, x.1.cell? ⟨zz.heap.size + 1, 1, none⟩ = some (.int .u32 (w : Int)) := fun x => x.2.2.trans c1
    have na : ∀ x : CelN (zz.heap.size + 1) w2, x.1.cell? ⟨mb, 1 + fb w 15 5, none⟩ = some (.int .u32 ((nth s.regs (fb w 15 5) : Nat) : Int)) := fun x => by
      rw [(M2.out.upd x.2.1 (by simp; omega) (by simp; omega) (fun g hg hm => by simp at hm; have := hown g hg; omega)).cAt, mc_reg s gb tv _ ok.regs hfa]
    have nb : ∀ x : CelN (zz.heap.size + 1) w2, x.1.cell? ⟨mb, 1 + fb w 20 5, none⟩ = some (.int .u32 ((nth s.regs (fb w 20 5) : Nat) : Int)) := fun x => by
      rw [(M2.out.upd x.2.1 (by simp; omega) (by simp; omega) (fun g hg hm => by simp at hm; have := hown g hg; omega)).cAt, mc_reg s gb tv _ ok.regs hfb]
    obtain ⟨av, hav⟩ : ∃ av, av = nth s.regs (fb w 15 5) := ⟨_, rfl⟩
    obtain ⟨bv, hbv⟩ : ∃ bv, bv = nth s.regs (fb w 20 5) := ⟨_, rfl⟩
    rw [← hav] at hal na HE
    rw [← hbv] at hbl nb HE
    clear hav hbv
    generalize fb w 15 5 = fa at *
    generalize fb w 20 5 = fbb at *
    have b2 : decide ((fa : Int) < 32) = true := decide_eq_true (by omega)
    have b3 : decide ((fbb : Int) < 32) = true := decide_eq_true (by omega)
    go_wp2_with (fail)
    refine wp_region_plan (fun z => ∃ x : CelN (zz.heap.size + 1) w2, z = x.1) [([0, 1, 2, 4, 5, 6, 9, 10, 11, 13, 14, 15], 3), ([7, 8, 18], 12), ([16, 17], 19), ([20], 21)] [] (by kernel_rfl) (by kernel_rfl) (by kernel_rfl) (by kernel_rfl) (fun _ d _ _ _ h => by cases d <;> exact h) ⟨⟨w2.drew, (Upd.refl _ _).drew, rfl⟩, rfl⟩ ?_
    refine plan_next ?_
    simp only [opsAt, List.map_cons, List.map_nil, List.getElem?_toArray, List.getElem?_cons_zero, List.getElem?_cons_succ, Option.getD_some]
    go_simp
    repeat (go_big_quiet_step (fail))
    refine wpQuiet_nil ?_
    refine plan_one rfl ?_
    go_wp2_with fail
    refine (BA.out _).mono ?_
    rintro e z3 ⟨rfl, k3, rfl⟩
    go_wp2_with fail
    refine plan_same ⟨⟨_, Upd.drewN _ (Upd.refl _ _), rfl⟩, rfl⟩ ?_
    refine plan_next ?_
    simp only [opsAt, List.map_cons, List.map_nil, List.getElem?_toArray, List.getElem?_cons_zero, List.getElem?_cons_succ, Option.getD_some]
    repeat (go_big_quiet_step (fail))
    refine wpQuiet_nil ?_
    refine plan_one rfl ?_
    go_wp2_with fail
    refine (BB.out _).mono ?_
    rintro e z4 ⟨rfl, k4, rfl⟩
    go_wp2_with fail
    refine plan_same ⟨⟨_, Upd.drewN _ (Upd.refl _ _), rfl⟩, rfl⟩ ?_
    refine plan_next ?_
    simp only [opsAt, List.map_cons, List.map_nil, List.getElem?_toArray, List.getElem?_cons_zero, List.getElem?_cons_succ, Option.getD_some]
    repeat (go_big_quiet_step (fail))
    refine wpQuiet_nil ?_
    refine plan_one rfl ?_
    refine L_store_int 31 (.tmp 61) (.tmp 51) rfl (by kernel_rfl) (zz.heap.size + 1) 2 rfl (seenC s.pc w 0 0 s.csrs) 69 (show (World.drewN w2 _).heap[zz.heap.size + 1]? = _ from HS2.out) .u32 (av : Int) rfl info_u1 (show 2 < 9 by decide) ?_
    intro w5 b5 u5 z5
    have HS5 : Hid (w5.heap[zz.heap.size + 1]? = some (.cells (seenC s.pc w av 0 s.csrs).toArray 69 (0, 0))) := Lib.hid b5
    have V5 := Lib.hid ((Upd.drewN _ (Upd.refl [zz.heap.size + 1] w2)).trans u5)
    have e5 : w5.cell? ⟨zz.heap.size + 1, 1, none⟩ = w2.cell? ⟨zz.heap.size + 1, 1, none⟩ := by rw [c1, cells_of HS5.out]; rfl
    clear b5 u5 z5
    refine plan_same ⟨⟨_, V5.out, e5⟩, rfl⟩ ?_
    refine plan_next ?_
    simp only [opsAt, List.map_cons, List.map_nil, List.getElem?_toArray, List.getElem?_cons_zero, List.getElem?_cons_succ, Option.getD_some]
    go_simp
    repeat (go_big_quiet_step (fail))
    refine wpQuiet_nil ?_
    refine plan_one rfl ?_
    refine L_store_int 31 (.tmp 62) (.tmp 60) rfl (by kernel_rfl) (zz.heap.size + 1) 3 rfl (seenC s.pc w av 0 s.csrs) 69 HS5.out .u32 (bv : Int) rfl info_u1 (show 3 < 9 by decide) ?_
    intro w6 b6 u6 z6
    have HS6 : Hid (w6.heap[zz.heap.size + 1]? = some (.cells (seenC s.pc w av bv s.csrs).toArray 69 (0, 0))) := Lib.hid b6
    have V6 := Lib.hid (V5.out.trans u6)
    have e6 : w6.cell? ⟨zz.heap.size + 1, 1, none⟩ = w2.cell? ⟨zz.heap.size + 1, 1, none⟩ := by rw [c1, cells_of HS6.out]; rfl
    clear b6 u6 z6
    refine plan_same ⟨⟨_, V6.out, e6⟩, rfl⟩ ?_
    refine plan_last ?_
    simp only [opsAt, List.map_cons, List.map_nil, List.getElem?_toArray, List.getElem?_cons_zero, List.getElem?_cons_succ, Option.getD_some]
    go_simp
    refine wpQuiet_nil ?_
    unfold planEnd
    have M6 := Lib.hid (M2.out.upd V6.out (by simp; omega) (by simp; omega) (fun g hg hm => by simp at hm; have := hown g hg; omega))
    have U6 := Lib.hid (U2.out.then V6.out (fun x hx hlt => by simp at hx; omega))
    have R6 := Lib.hid (V6.out.keep R2.out (by simp))
    clear M2 U2 R2 V6 V5 HS2 HS5 e5 e6 n1 na nb c1 BA BB
    have p1 : w6.cell? ⟨zz.heap.size + 1, 1, none⟩ = some (.int .u32 (w : Int)) := by rw [cells_of HS6.out]; rfl
    have p2 : w6.cell? ⟨zz.heap.size + 1, 2, none⟩ = some (.int .u32 (av : Int)) := by rw [cells_of HS6.out]; rfl
    go_wp2_with (fail)
    refine (loads_calls w av hwl hal _).mono ?_
    rintro e w7 ⟨x, d, rfl, hL, u7⟩
    have M7 := Lib.hid (M6.out.upd0 u7)
    have U7 := Lib.hid (U6.out.trans u7)
    have R7 := Lib.hid (u7.keep R6.out (by simp))
    have HS7 := Lib.hid (u7.keep HS6.out (by simp))
    clear p1 p2 M6 U6 R6 HS6 u7
    have hclt : ∀ k, nth s.csrs k < 2 ^ 32 := fun k => nthB2 ok.clt (by decide) k
    cases d
    · have HE2 := Lib.hid (show madeP s = doP s.pc w av bv s.csrs 0 by rw [HE.out, doP_eq, doP_eq]; exact doI_word _ _ _ _ _ _ _ _ x hL)
      have DO := Lib.hid (fun z => do_calls s.pc w av bv 0 s.csrs z ok.pc hwl hal hbl (by decide) hclt ok.csrs)
      generalize doP s.pc w av bv s.csrs 0 = MM at HE2 DO
      go_wp2_with (first
        | go_skip
        | ((with_reducible refine at_op 81 ?_); refine L_load 69 (.tmp 3) rfl (by kernel_rfl) _ _ rfl (seenC s.pc w av bv s.csrs).toArray (row_range HS7.out) Try.underlying69 rfl 9 info_seen rfl ?_))
      refine (DO.out _).mono ?_
      rintro e w8 ⟨rfl, u8⟩
      have R8 := Lib.hid (u8.keep R7.out (by simp))
      have U8 := Lib.hid (U7.out.trans u8)
      clear u8
      go_wp2_with (first
        | go_skip
        | ((with_reducible refine at_st 2 ?_); refine L_store_row 53 (.tmp 2) (.tmp 83) rfl (by kernel_rfl) zz.heap.size 0 rfl zMade.cells 53 R8.out MM.cells.toArray rfl 13 info_made rfl (by decide) (MadeV.one _) ?_))
      intro wZ bZ uZ zZ
      rw [spl_all (by rfl)] at bZ
      go_wp2_with (fail)
      refine bodyPost_ret (results_cell_row rfl _ _ zz.heap.size 53 MM.cells.toArray _ _ rfl bZ Try.underlying53 rfl info_made) rfl ⟨by rw [HE2.out], ?_⟩
      exact U8.out.then uZ (fun x hx hlt => by simp at hx; omega)
    · obtain ⟨hx, ho1, ho2, hac⟩ := hL.1 rfl
      have hin := access_in hac ho1 ho2
      have hxq : x / 4 = u32 ((av : Int) + (decodeP w).imm) / 4 := by rw [hx, low2]; omega
      rw [← hxq] at HE
      have hx4 : x / 4 < 1024 := by rw [hxq]; omega
      have q3 : (x : Int) / 4 = ((x / 4 : Nat) : Int) := by omega
      have q4 : (x : Int).tdiv 4 = ((x / 4 : Nat) : Int) := by rw [Int.tdiv_eq_ediv_of_nonneg (by omega)]; omega
      have m38 : w7.cell? ⟨mb, 38, none⟩ = some (.slice (some ⟨gb, 0, none⟩) 1024 1024) := by rw [M7.out.cAt 38, mc_tail s gb tv 0 ok.regs ok.csrs]; rfl
      have mw : w7.cell? ⟨gb, x / 4, none⟩ = some (.int .u32 ((nth s.mem (x / 4) : Nat) : Int)) := by
        rw [cells_of M7.out.mem]; exact nums_nth .u32 s.mem _ (by rw [ok.mem]; exact hx4)
      have hvl : nth s.mem (x / 4) < 2 ^ 32 := nthB2 ok.mlt (by decide) _
      have b9 : decide (((x / 4 : Nat) : Int) < 1024) = true := decide_eq_true (by omega)
      clear hL hx hac hin hxq
      generalize nth s.mem (x / 4) = v at *
      generalize x / 4 = q5 at *
      have HE2 := Lib.hid HE.out
      have DO := Lib.hid (fun z => do_calls s.pc w av bv v s.csrs z ok.pc hwl hal hbl hvl hclt ok.csrs)
      generalize doP s.pc w av bv s.csrs v = MM at HE2 DO
      go_wp2_with (first
        | go_skip
        | ((with_reducible refine at_op 81 ?_); refine L_load 69 (.tmp 3) rfl (by kernel_rfl) _ _ rfl (seenC s.pc w av bv s.csrs).toArray (row_range HS7.out) Try.underlying69 rfl 9 info_seen rfl ?_))
      refine (DO.out _).mono ?_
      rintro e w8 ⟨rfl, u8⟩
      have R8 := Lib.hid (u8.keep R7.out (by simp))
      have U8 := Lib.hid (U7.out.trans u8)
      clear u8
      go_wp2_with (first
        | go_skip
        | ((with_reducible refine at_st 2 ?_); refine L_store_row 53 (.tmp 2) (.tmp 83) rfl (by kernel_rfl) zz.heap.size 0 rfl zMade.cells 53 R8.out MM.cells.toArray rfl 13 info_made rfl (by decide) (MadeV.one _) ?_))
      intro wZ bZ uZ zZ
      rw [spl_all (by rfl)] at bZ
      go_wp2_with (fail)
      refine bodyPost_ret (results_cell_row rfl _ _ zz.heap.size 53 MM.cells.toArray _ _ rfl bZ Try.underlying53 rfl info_made) rfl ⟨by rw [HE2.out], ?_⟩
      exact U8.out.then uZ (fun x hx hlt => by simp at hx; omega)
  · rw [hf] at F
    have HE := Lib.hid (show madeP s = trapP s.pc s.csrs (fetchP s.pc).1 s.pc by unfold madeP; rw [if_pos hf])
    have hc32 : (fetchP s.pc).1 < 2 ^ 32 := by unfold fetchP; split; decide; split <;> decide
    generalize (fetchP s.pc).1 = cause at F HE hc32
    clear hf
    go_wp2_with (fail)
    refine (F.out _).mono ?_
    rintro e z1 ⟨rfl, rfl⟩
    go_wp2_with (first
      | go_skip
      | ((with_reducible refine at_op 27 ?_); refine L_load 69 (.tmp 3) rfl (by kernel_rfl) _ _ rfl (seenC s.pc 0 0 0 s.csrs).toArray (row_range HSX.out) Try.underlying69 rfl 9 info_seen rfl ?_))
    refine (trap_calls s.pc 0 0 0 cause s.pc s.csrs _ ok.pc hc32 ok.csrs).mono ?_
    rintro e z2 ⟨rfl, rfl⟩
    generalize hMM : trapP s.pc s.csrs cause s.pc = MM
    have HMM := Lib.hid hMM
    clear hMM
    go_wp2_with (first
      | go_skip
      | ((with_reducible refine at_st 2 ?_); refine L_store_row 53 (.tmp 2) (.tmp 31) rfl (by kernel_rfl) zz.heap.size 0 rfl zMade.cells 53 (heap_old (heap_old (heap_old RX.out _) _) _) MM.cells.toArray rfl 13 info_made rfl (by decide) (MadeV.one _) ?_))
    intro wZ bZ uZ zZ
    rw [spl_all (by rfl)] at bZ
    go_wp2_with (fail)
    refine bodyPost_ret (results_cell_row rfl _ _ zz.heap.size 53 MM.cells.toArray _ _ rfl bZ Try.underlying53 rfl info_made) rfl ⟨by rw [HE.out, HMM.out], ?_⟩
    exact (((UX.out.alloc _).alloc _).alloc _).then uZ (fun x hx hlt => by simp at hx; omega)
end Go.Proofs.Ytggjmdgonjhioaa

namespace Go.Proofs.Ytggjmdgonjhioaa
open Go.RowKit Go.Dio
set_option linter.unusedSimpArgs false
set_option linter.unusedVariables false

theorem vals_set (k : IntKind) (l : List Nat) (j n : Nat) : (vals k l).set j (.int k (n : Int)) = vals k (l.set j n) := by simp [vals, List.map_set]
theorem mset_pc (s : MSt) (gb : Nat) (tv : Value) (n : Nat) : (mcells s gb tv).set 0 (.int .u32 (n : Int)) = mcells { s with pc := n } gb tv := rfl
theorem mset_reg (s : MSt) (gb : Nat) (tv : Value) (j n : Nat) (hr : s.regs.length = 32) (hj : j < 32) : (mcells s gb tv).set (1 + j) (.int .u32 (n : Int)) = mcells { s with regs := s.regs.set j n } gb tv := by
  rw [mcells, Nat.add_comm, List.set_cons_succ, List.set_append_left _ _ (by rw [vals_length]; omega), vals_set]
  rfl
theorem mset_tail (s : MSt) (gb : Nat) (tv : Value) (j : Nat) (v : Value) (hr : s.regs.length = 32) (hc : s.csrs.length = 5) :
    (mcells s gb tv).set (38 + j) v = .int .u32 (s.pc : Int) :: (vals .u32 s.regs ++ (vals .u32 s.csrs ++ [Value.slice (some ⟨gb, 0, none⟩) 1024 1024, tv, .bool s.halted, .int .u32 (s.code : Int), .int .i64 (s.steps : Int)].set j v)) := by
  rw [mcells, show 38 + j = (32 + (5 + j)) + 1 by omega, List.set_cons_succ, List.set_append_right _ _ (by rw [vals_length]; omega), vals_length, hr, show 32 + (5 + j) - 32 = 5 + j by omega,
    List.set_append_right _ _ (by rw [vals_length]; omega), vals_length, hc, show 5 + j - 5 = j by omega]
theorem mset_trace (s : MSt) (gb : Nat) (tv tv' : Value) (t : List Nat) (hr : s.regs.length = 32) (hc : s.csrs.length = 5) : (mcells s gb tv).set 39 tv' = mcells { s with trace := t } gb tv' := mset_tail s gb tv 1 tv' hr hc
theorem mset_halted (s : MSt) (gb : Nat) (tv : Value) (b : Bool) (hr : s.regs.length = 32) (hc : s.csrs.length = 5) : (mcells s gb tv).set 40 (.bool b) = mcells { s with halted := b } gb tv := mset_tail s gb tv 2 _ hr hc
theorem mset_code (s : MSt) (gb : Nat) (tv : Value) (n : Nat) (hr : s.regs.length = 32) (hc : s.csrs.length = 5) : (mcells s gb tv).set 41 (.int .u32 (n : Int)) = mcells { s with code := n } gb tv := mset_tail s gb tv 3 _ hr hc
theorem mset_steps (s : MSt) (gb : Nat) (tv : Value) (n : Nat) (hr : s.regs.length = 32) (hc : s.csrs.length = 5) : (mcells s gb tv).set 42 (.int .i64 (n : Int)) = mcells { s with steps := n } gb tv := mset_tail s gb tv 4 _ hr hc
theorem mcells_mem (s : MSt) (gb : Nat) (tv : Value) (m : List Nat) : mcells { s with mem := m } gb tv = mcells s gb tv := rfl
theorem mcells_len (s : MSt) (gb : Nat) (tv : Value) (hr : s.regs.length = 32) (hc : s.csrs.length = 5) : (mcells s gb tv).length = 43 := by
  simp [mcells, vals_length, hr, hc]
theorem drop2 (A B C : List Value) (hA : A.length = 33) (hB : B.length = 5) : (A ++ (B ++ C)).drop (33 + 5) = C := by
  rw [← List.append_assoc]; exact List.drop_left' (by rw [List.length_append, hA, hB])
theorem mspl_csr (s : MSt) (gb : Nat) (tv : Value) (cs : List Nat) (hr : s.regs.length = 32) (hc : s.csrs.length = 5) (hl : cs.length = 5) : spl (mcells s gb tv) 33 (vals .u32 cs) = mcells { s with csrs := cs } gb tv := by
  have e : mcells s gb tv = (.int .u32 (s.pc : Int) :: vals .u32 s.regs) ++ (vals .u32 s.csrs ++ [Value.slice (some ⟨gb, 0, none⟩) 1024 1024, tv, .bool s.halted, .int .u32 (s.code : Int), .int .i64 (s.steps : Int)]) := rfl
  have h1 : (Value.int .u32 (s.pc : Int) :: vals .u32 s.regs).length = 33 := by simp [vals_length, hr]
  have h2 : (vals .u32 s.csrs).length = 5 := by rw [vals_length, hc]
  have h3 : (vals .u32 cs).length = 5 := by rw [vals_length, hl]
  unfold spl
  rw [e, h3, List.take_append_of_le_length (by omega), List.take_of_length_le (by omega), drop2 _ _ _ h1 h2, List.append_assoc]
  rfl
/-- Append, and where the row lies then. -/
theorem L_app2 {ops : Array Oper} {rest : List Oper} {o : Oper} {a : Act} {w : World} {Q : Exit → Act → World → Prop} (s x : Operand)
    (ho : o.op = .call { callee := .builtin .append, args := #[s, x], argTypes := #[23, 23] }) (hw : Region.wanted o (yielded ops a.tmps) = true)
    (base : Nat) (v : Value) (l : List Nat) (hs : a.eval s = v) (hO : Ow base w v l)
    (A : Option Addr) (m c : Nat) (ml : List Nat) (hx : a.eval x = .slice A m c) (hm : m = ml.length) (hA : NumsAt w .u32 A ml) (hl : l.length + ml.length ≤ 5000) (hbase : base ≤ w.heap.size)
    (h : ∀ v' w', Ow base w' v' (l ++ ml) → Upd v.ownBlock.toList w w' → (∀ g, v'.ownBlock = some g → v.ownBlock = some g ∨ w.heap.size ≤ g) → wpList Try.prog ops Q rest (a.put o.dst v') w') :
    wpList Try.prog ops Q (o :: rest) a w := by
  subst hm
  refine L_append w s x 23 ho hw base 31 _ 1 4 Try.underlying23 info_w32k rfl (by omega) v l.length (vals .u32 l) hs hO A ml.length c (vals .u32 ml) hx (by simp [vals]) (srcAt_nums hA) (vals_one _ _) (by simp only [maxLen]; omega) (by omega) hbase ?_
  intro v' w' own g hb
  refine h v' w' ?_ (upd_grown g) (fun k hk => ?_)
  · unfold Ow
    rw [vals_append, List.length_append]
    exact own
  · rcases hb with hb | hb
    · exact .inl (by rw [← hb]; exact hk)
    · rw [hb] at hk; injection hk with hk; exact .inr (by omega)
/-- What a store does to a machine. -/
def stS (s : MSt) (A d : Nat) (mask : Int) : MSt :=
  if A = 268435456 then { s with trace := s.trace ++ [d] }
  else if A = 268435460 then { s with halted := true, code := d }
  else { s with mem := s.mem.set (A / 4) (mrg (nth s.mem (A / 4)) d mask) }
def retArr (pc val rd : Int) (st : Bool) (A d : Nat) (mask : Int) : Array Value := #[.int .u32 pc, .int .u32 val, .int .i64 rd, .bool st, .int .u32 (A : Int), .int .u32 (d : Int), .int .i64 mask]
theorem info_b1 : (Try.prog.info? 4).map (·.size) = some 1 := by kernel_rfl
end Go.Proofs.Ytggjmdgonjhioaa

namespace Go.Proofs.Ytggjmdgonjhioaa
open Go.RowKit Go.Dio
set_option linter.unusedSimpArgs false
set_option linter.unusedVariables false

/-- What is behind a store: the machine, changed; nothing else of old. -/
def StR (mb gb base : Nat) (tv : Value) (s : MSt) (zz w' : World) : Prop :=
  ∃ tv', MachAt mb gb base tv' s w' ∧ Upd (mb :: gb :: tv.ownBlock.toList) zz w' ∧ ∀ g, tv'.ownBlock = some g → tv.ownBlock = some g ∨ zz.heap.size ≤ g
set_option maxRecDepth 20000 in
set_option maxHeartbeats 4000000 in
theorem store_halt (mb gb base : Nat) (tv : Value) (s : MSt) (zz : World) (M : MachAt mb gb base tv s zz) (ok : MOk s) (pc val rd : Int) (st : Bool) (d : Nat) (mask : Int) :
    Calls Try.prog 19 #[.pointer (some ⟨mb, 0, none⟩), .agg (retArr pc val rd st 268435460 d mask)] zz fun e z' => e = .returned (.tuple #[]) ∧ StR mb gb base tv (stS s 268435460 d mask) zz z' := by
  have hE : stS s 268435460 d mask = { s with halted := true, code := d } := rfl
  rw [hE]
  clear hE
  have hown : ∀ g, tv.ownBlock = some g → base ≤ g := fun g hg => (World.ownsRow.lt M.own g hg).1
  have htop := M.top
  have hlt := lt_of_block M.cell
  show Calls _ _ #[_, .agg #[.int .u32 pc, .int .u32 val, .int .i64 rd, .bool st, .int .u32 268435460, .int .u32 (d : Int), .int .i64 mask]] _ _
  go_enter Try.func19, Try.ntmps19
  go_wp2_with (fail)
  have R0 := Lib.hid (hl1 zz (.cells (retArr pc val rd st 268435460 d mask) 33))
  have MW := Lib.hid (M.upd0 ((Upd.refl [] zz).alloc (.cells (retArr pc val rd st 268435460 d mask) 33)))
  have UW := Lib.hid ((Upd.refl [] zz).alloc (.cells (retArr pc val rd st 268435460 d mask) 33))
  generalize hW : World.alloc zz _ = W
  have hW2 : zz.alloc (.cells (retArr pc val rd st 268435460 d mask) 33) = W := hW
  rw [hW2] at R0 MW UW
  clear hW hW2
  have n5 : ∀ x : Near [mb] W, x.1.cell? ⟨zz.heap.size, 5, none⟩ = some (.int .u32 (d : Int)) := fun x => by rw [cells_of (x.2.keep R0.out (by simp; omega))]; rfl
  have c40 : W.drew.cell? ⟨mb, 40, none⟩ = some (.bool s.halted) := by rw [(MW.out.upd0 (Upd.refl [] W).drew).cAt 40, mc_tail s gb tv 2 ok.regs ok.csrs]; rfl
  have f40 : W.drew.frozen? ⟨mb, 40, none⟩ = false := free_of (MW.out.upd0 (Upd.refl [] W).drew).cell 40
  refine wp_region_plan (fun z => ∃ x : Near [mb] W, z = x.1) [([0, 1, 2, 3, 4, 5], 6), ([7, 8], 9)] [] (by kernel_rfl) (by kernel_rfl) (by kernel_rfl) (by kernel_rfl) (fun _ d _ _ _ h => by cases d <;> exact h) ⟨⟨(W).drew, (Upd.refl _ _).drew⟩, rfl⟩ ?_
  refine plan_next ?_
  simp only [opsAt, List.map_cons, List.map_nil, List.getElem?_toArray, List.getElem?_cons_zero, List.getElem?_cons_succ, Option.getD_some]
  repeat (go_big_quiet_step (fail))
  refine wpQuiet_nil ?_
  refine plan_one rfl ?_
  go_wp2_with fail
  have V2 : Hid (Upd [mb] W (W.setCell ⟨mb, 40, none⟩ (.bool true)).drew) := Lib.hid (((Upd.refl _ _).setCell (p := ⟨mb, 40, none⟩) (by simp) _).drew)
  have M2 : Hid ((W.setCell ⟨mb, 40, none⟩ (.bool true)).drew.heap[mb]? = some (.cells (mcells { s with halted := true } gb tv).toArray 51 (0, 0))) := Lib.hid (by
    show (W.setCell ⟨mb, 40, none⟩ (.bool true)).heap[mb]? = _
    rw [heap_setCell_eq MW.out.cell]
    rw [← mset_halted s gb tv true ok.regs ok.csrs]; simp)
  generalize hX : World.drew (World.setCell W _ _) = X at *
  clear hX c40 f40
  refine plan_same ⟨⟨_, V2.out⟩, rfl⟩ ?_
  refine plan_next ?_
  simp only [opsAt, List.map_cons, List.map_nil, List.getElem?_toArray, List.getElem?_cons_zero, List.getElem?_cons_succ, Option.getD_some]
  repeat (go_big_quiet_step (fail))
  refine wpQuiet_nil ?_
  refine plan_one rfl ?_
  refine L_store_int 31 (.tmp 52) (.tmp 48) rfl (by kernel_rfl) mb 41 rfl (mcells { s with halted := true } gb tv) 51 M2.out .u32 (d : Int) rfl info_u1 (by rw [mcells_len { s with halted := true } gb tv ok.regs ok.csrs]; decide) ?_
  intro w3 b3 u3 z3
  have M3 : Hid (w3.heap[mb]? = some (.cells (mcells { s with halted := true, code := d } gb tv).toArray 51 (0, 0))) := Lib.hid (by rw [b3, mset_code { s with halted := true } gb tv d ok.regs ok.csrs])
  have V3 := Lib.hid (V2.out.trans u3)
  clear b3 u3 z3 n5
  refine plan_same ⟨⟨_, V3.out⟩, rfl⟩ ?_
  refine plan_last ?_
  simp only [opsAt, List.map_cons, List.map_nil, List.getElem?_toArray, List.getElem?_cons_zero, List.getElem?_cons_succ, Option.getD_some]
  go_simp
  refine wpQuiet_nil ?_
  unfold planEnd
  go_wp2_with (fail)
  go_end0
  have hm : gb ∉ [mb] := by have := MW.out.ne; simp; exact this
  refine ⟨rfl, tv, ⟨M3.out, V3.out.keep MW.out.mem hm, own_upd MW.out.own V3.out (fun g hg hs => by have := hown g hg; simp at hs; omega), MW.out.ne, htop⟩, ?_, fun g hg => .inl hg⟩
  exact (UW.out.mono (T := mb :: gb :: tv.ownBlock.toList) (fun x hx _ => by simp at hx)).trans (V3.out.mono (T := mb :: gb :: tv.ownBlock.toList) (fun x hx _ => by simp at hx; simp [hx]))
theorem nums_set_l (l : List Nat) (q n : Nat) : ((nums .u32 l).toList.set q (.int .u32 (n : Int))).toArray = nums .u32 (l.set q n) := by
  rw [numsK_vals, vals_set, ← numsK_vals]
set_option maxRecDepth 20000 in
set_option maxHeartbeats 4000000 in
theorem store_mem (mb gb base : Nat) (tv : Value) (s : MSt) (zz : World) (M : MachAt mb gb base tv s zz) (ok : MOk s) (pc val rd : Int) (st : Bool) (A d : Nat) (mask : Int) (hA : A < 4096) (hd : d < 2 ^ 32) :
    Calls Try.prog 19 #[.pointer (some ⟨mb, 0, none⟩), .agg (retArr pc val rd st A d mask)] zz fun e z' => e = .returned (.tuple #[]) ∧ StR mb gb base tv (stS s A d mask) zz z' := by
  have hE : stS s A d mask = { s with mem := s.mem.set (A / 4) (mrg (nth s.mem (A / 4)) d mask) } := by unfold stS; rw [if_neg (by omega), if_neg (by omega)]
  rw [hE]
  clear hE
  have hown : ∀ g, tv.ownBlock = some g → base ≤ g := fun g hg => (World.ownsRow.lt M.own g hg).1
  have htop := M.top
  have hlt := lt_of_block M.cell
  have hgl := lt_of_block M.mem
  have hne := M.ne
  have e1 : ((A : Int) == 268435456) = false := by rw [beq_eq_false_iff_ne]; omega
  have e2 : ((A : Int) == 268435460) = false := by rw [beq_eq_false_iff_ne]; omega
  have q1 : (A : Int) / 4 = ((A / 4 : Nat) : Int) := by omega
  have q2 : (A : Int).tdiv 4 = ((A / 4 : Nat) : Int) := by rw [Int.tdiv_eq_ediv_of_nonneg (by omega)]; omega
  have hq : A / 4 < 1024 := by omega
  have b1 : decide (((A / 4 : Nat) : Int) < 1024) = true := decide_eq_true (by omega)
  show Calls _ _ #[_, .agg #[.int .u32 pc, .int .u32 val, .int .i64 rd, .bool st, .int .u32 (A : Int), .int .u32 (d : Int), .int .i64 mask]] _ _
  go_enter Try.func19, Try.ntmps19
  go_wp2_with (fail)
  have R0 := Lib.hid (hl1 zz (.cells (retArr pc val rd st A d mask) 33))
  have MW := Lib.hid (M.upd0 ((Upd.refl [] zz).alloc (.cells (retArr pc val rd st A d mask) 33)))
  have UW := Lib.hid ((Upd.refl [] zz).alloc (.cells (retArr pc val rd st A d mask) 33))
  generalize hW : World.alloc zz _ = W
  have hW2 : zz.alloc (.cells (retArr pc val rd st A d mask) 33) = W := hW
  rw [hW2] at R0 MW UW
  clear hW hW2
  have n4 : ∀ x : Near [] W, x.1.cell? ⟨zz.heap.size, 4, none⟩ = some (.int .u32 (A : Int)) := fun x => by rw [cells_of (x.2.keep R0.out (by simp))]; rfl
  have n5 : ∀ x : Near [] W, x.1.cell? ⟨zz.heap.size, 5, none⟩ = some (.int .u32 (d : Int)) := fun x => by rw [cells_of (x.2.keep R0.out (by simp))]; rfl
  have n6 : ∀ x : Near [] W, x.1.cell? ⟨zz.heap.size, 6, none⟩ = some (.int .i64 mask) := fun x => by rw [cells_of (x.2.keep R0.out (by simp))]; rfl
  have n38 : ∀ x : Near [] W, x.1.cell? ⟨mb, 38, none⟩ = some (.slice (some ⟨gb, 0, none⟩) 1024 1024) := fun x => by rw [(MW.out.upd0 x.2).cAt 38, mc_tail s gb tv 0 ok.regs ok.csrs]; rfl
  have nw : ∀ x : Near [] W, x.1.cell? ⟨gb, A / 4, none⟩ = some (.int .u32 ((nth s.mem (A / 4) : Nat) : Int)) := fun x => by
    rw [cells_of (x.2.keep MW.out.mem (by simp))]; exact nums_nth .u32 s.mem _ (by rw [ok.mem]; exact hq)
  have hol : nth s.mem (A / 4) < 2 ^ 32 := nthB2 ok.mlt (by decide) _
  have hq2 : A / 4 < s.mem.length := by rw [ok.mem]; exact hq
  obtain ⟨q, hq0⟩ : ∃ q, q = A / 4 := ⟨_, rfl⟩
  rw [← hq0] at nw hol hq2 hq b1 q1 q2
  have HQ := Lib.hid hq0.symm
  clear hq0
  obtain ⟨old, ho0⟩ : ∃ old, old = nth s.mem q := ⟨_, rfl⟩
  rw [← ho0] at nw hol
  have HO := Lib.hid ho0.symm
  clear ho0
  refine wp_region_segs [([([0, 1, 2, 3, 4, 5, 6, 7, 8, 9, 10, 11, 12, 13, 14, 15, 16, 17, 18, 19, 20, 21], 22)], [23]), ([([], 24)], [])] (by kernel_rfl) (by kernel_rfl) (by kernel_rfl) (by kernel_rfl) (fun _ d _ _ _ h => by cases d <;> exact h) ?_
  refine segs_part (fun z => ∃ x : Near [] W, z = x.1) ⟨⟨_, (Upd.refl _ _).drew⟩, rfl⟩ ?_
  refine part_next ?_
  simp only [opsAt, List.map_cons, List.map_nil, List.getElem?_toArray, List.getElem?_cons_zero, List.getElem?_cons_succ, Option.getD_some]
  repeat (go_big_quiet_step (fail))
  refine wpQuiet_nil ?_
  refine part_one rfl ?_
  go_wp2_with fail
  refine (Merge_calls old d mask _ hol hd).mono ?_
  rintro e z1 ⟨rfl, rfl⟩
  go_wp2_with fail
  refine part_same ⟨⟨_, (Upd.refl _ _).drew⟩, rfl⟩ ?_
  refine part_last ?_
  simp only [opsAt, List.map_cons, List.map_nil, List.getElem?_toArray, List.getElem?_cons_zero, List.getElem?_cons_succ, Option.getD_some]
  repeat (go_big_quiet_step (fail))
  refine wpQuiet_nil ?_
  unfold partEnd
  clear n4 n5 n6 n38 nw
  refine segs_part (fun z => ∃ x : Near [gb] W, z = x.1) ⟨⟨_, (Upd.refl _ _).drew⟩, rfl⟩ ?_
  refine part_next ?_
  simp only [opsAt, List.map_cons, List.map_nil, List.getElem?_toArray, List.getElem?_cons_zero, List.getElem?_cons_succ, Option.getD_some]
  repeat (go_big_quiet_step (fail))
  refine wpQuiet_nil ?_
  refine part_one rfl ?_
  refine L_store_int 31 (.tmp 29) (.tmp 28) rfl (by kernel_rfl) gb q rfl (nums .u32 s.mem).toList 31 (show (World.drew W).heap[gb]? = _ from MW.out.mem) .u32 ((mrg old d mask : Nat) : Int) rfl info_u1 (by rw [Array.length_toList, nums_size]; exact hq2) ?_
  intro w3 b3 u3 z3
  rw [nums_set_l] at b3
  have V3 := Lib.hid (((Upd.refl [gb] W).drew).trans u3)
  have B3 := Lib.hid b3
  clear b3 u3 z3
  refine part_same ⟨⟨_, V3.out⟩, rfl⟩ ?_
  refine part_last ?_
  simp only [opsAt, List.map_cons, List.map_nil, List.getElem?_toArray, List.getElem?_cons_zero, List.getElem?_cons_succ, Option.getD_some]
  repeat (go_big_quiet_step (fail))
  refine wpQuiet_nil ?_
  unfold partEnd
  refine segs_end ?_
  go_wp2_with (fail)
  go_end0
  refine ⟨rfl, tv, ⟨?_, by rw [HQ.out, HO.out]; exact B3.out, own_upd MW.out.own V3.out (fun g hg hs => by have := hown g hg; simp at hs; omega), MW.out.ne, htop⟩, ?_, fun g hg => .inl hg⟩
  · rw [mcells_mem]; exact V3.out.keep MW.out.cell (by simp; omega)
  exact (UW.out.mono (T := mb :: gb :: tv.ownBlock.toList) (fun x hx _ => by simp at hx)).trans (V3.out.mono (T := mb :: gb :: tv.ownBlock.toList) (fun x hx _ => by simp at hx; simp [hx]))
set_option maxRecDepth 20000 in
set_option maxHeartbeats 4000000 in
theorem store_port (mb gb base : Nat) (tv : Value) (s : MSt) (zz : World) (M : MachAt mb gb base tv s zz) (ok : MOk s) (pc val rd : Int) (st : Bool) (d : Nat) (mask : Int) (hb : base ≤ zz.heap.size) (ht : s.trace.length ≤ 4000) :
    Calls Try.prog 19 #[.pointer (some ⟨mb, 0, none⟩), .agg (retArr pc val rd st 268435456 d mask)] zz fun e z' => e = .returned (.tuple #[]) ∧ StR mb gb base tv (stS s 268435456 d mask) zz z' := by
  have hE : stS s 268435456 d mask = { s with trace := s.trace ++ [d] } := rfl
  rw [hE]
  clear hE
  have hown : ∀ g, tv.ownBlock = some g → base ≤ g ∧ g < zz.heap.size := fun g hg => World.ownsRow.lt M.own g hg
  have htop := M.top
  have hlt := lt_of_block M.cell
  have hgl := lt_of_block M.mem
  show Calls _ _ #[_, .agg #[.int .u32 pc, .int .u32 val, .int .i64 rd, .bool st, .int .u32 268435456, .int .u32 (d : Int), .int .i64 mask]] _ _
  go_enter Try.func19, Try.ntmps19
  go_wp2_with (fail)
  have R0 := Lib.hid (hl1 zz (.cells (retArr pc val rd st 268435456 d mask) 33))
  have MW := Lib.hid (M.upd0 ((Upd.refl [] zz).alloc (.cells (retArr pc val rd st 268435456 d mask) 33)))
  have UW := Lib.hid ((Upd.refl [] zz).alloc (.cells (retArr pc val rd st 268435456 d mask) 33))
  have hWs : zz.heap.size ≤ (zz.alloc (.cells (retArr pc val rd st 268435456 d mask) 33)).heap.size := by simp
  generalize hW : World.alloc zz _ = W
  have hW2 : zz.alloc (.cells (retArr pc val rd st 268435456 d mask) 33) = W := hW
  rw [hW2] at R0 MW UW hWs
  clear hW hW2
  have hm1 : mb ∉ tv.ownBlock.toList := fun h => by have := hown mb (by simpa using h); omega
  have hm2 : zz.heap.size ∉ tv.ownBlock.toList := fun h => by have := hown zz.heap.size (by simpa using h); omega
  have hm3 : gb ∉ tv.ownBlock.toList := fun h => by have := hown gb (by simpa using h); omega
  have n5 : ∀ x : Near tv.ownBlock.toList W, x.1.cell? ⟨zz.heap.size, 5, none⟩ = some (.int .u32 (d : Int)) := fun x => by rw [cells_of (x.2.keep R0.out hm2)]; rfl
  have n39 : ∀ x : Near tv.ownBlock.toList W, x.1.cell? ⟨mb, 39, none⟩ = some tv := fun x => by
    have h1 := mc_tail s gb tv 1 ok.regs ok.csrs
    rw [cells_of (x.2.keep MW.out.cell hm1)]
    simpa using h1
  refine wp_region_segs [([([0, 1, 2, 3, 4, 5, 6], 7), ([], 8)], [9, 10]), ([([], 11)], [])] (by kernel_rfl) (by kernel_rfl) (by kernel_rfl) (by kernel_rfl) (fun _ d _ _ _ h => by cases d <;> exact h) ?_
  refine segs_part (fun z => ∃ x : Near tv.ownBlock.toList W, z = x.1) ⟨⟨_, (Upd.refl _ _).drew⟩, rfl⟩ ?_
  refine part_next ?_
  simp only [opsAt, List.map_cons, List.map_nil, List.getElem?_toArray, List.getElem?_cons_zero, List.getElem?_cons_succ, Option.getD_some]
  repeat (go_big_quiet_step (fail))
  refine wpQuiet_nil ?_
  refine part_one rfl ?_
  go_wp2_with fail
  have O2 := Lib.hid ((MW.out.own.upd ((Upd.refl [] W).alloc (.cells (nums .u32 [d]) 31)) (fun g hg => by simp at hg)))
  have V2 := Lib.hid (((Upd.refl tv.ownBlock.toList W).alloc (.cells (nums .u32 [d]) 31)).drew)
  have N2 := Lib.hid (numsAt_new W .u32 [d] 31)
  have hs2 : W.heap.size ≤ (W.alloc (.cells (nums .u32 [d]) 31)).heap.size := by simp
  refine part_same ⟨⟨_, V2.out⟩, rfl⟩ ?_
  refine part_next ?_
  simp only [opsAt, List.map_cons, List.map_nil, List.getElem?_toArray, List.getElem?_cons_zero, List.getElem?_cons_succ, Option.getD_some]
  repeat (go_big_quiet_step (fail))
  refine wpQuiet_nil ?_
  refine part_one rfl ?_
  refine L_app2 (.tmp 36) (.tmp 39) rfl (by kernel_rfl) base tv s.trace rfl (show Ow base (World.drew _) tv s.trace from O2.out) _ 1 1 [d] rfl rfl (show NumsAt (World.drew _) .u32 _ [d] from N2.out) (by simp only [List.length_cons, List.length_nil]; omega) (Nat.le_trans hb (Nat.le_trans hWs hs2)) ?_
  intro v' w5 O5 u5 hbk
  have V5 := Lib.hid (V2.out.trans u5)
  obtain ⟨A5, c5, rfl, hc1, hc2, hn5, hb5⟩ := O5.words
  have O5' := Lib.hid O5
  have HBK := Lib.hid hbk
  have hsz5 : W.heap.size ≤ w5.heap.size := V5.out.size
  clear u5 O5 hbk hc1 hc2 hn5 hb5 O2 N2
  obtain ⟨T, hT⟩ : ∃ T, T = s.trace ++ [d] := ⟨_, rfl⟩
  rw [← hT] at O5' HBK ⊢
  have HT := Lib.hid hT
  clear hT
  refine part_same ⟨⟨_, V5.out⟩, rfl⟩ ?_
  refine part_last ?_
  simp only [opsAt, List.map_cons, List.map_nil, List.getElem?_toArray, List.getElem?_cons_zero, List.getElem?_cons_succ, Option.getD_some]
  go_simp
  repeat (go_big_quiet_step (fail))
  refine wpQuiet_nil ?_
  unfold partEnd
  have B5 := Lib.hid (V5.out.keep MW.out.cell hm1)
  have G5 := Lib.hid (V5.out.keep MW.out.mem hm3)
  have c39 : w5.cell? ⟨mb, 39, none⟩ = some tv := by
    have h1 := mc_tail s gb tv 1 ok.regs ok.csrs
    rw [cells_of B5.out]; simpa using h1
  have f39 : w5.frozen? ⟨mb, 39, none⟩ = false := free_of B5.out 39
  clear n5 n39
  refine segs_part (fun z => ∃ x : Near [mb] w5, z = x.1) ⟨⟨_, (Upd.refl _ _)⟩, rfl⟩ ?_
  refine part_next ?_
  simp only [opsAt, List.map_cons, List.map_nil, List.getElem?_toArray, List.getElem?_cons_zero, List.getElem?_cons_succ, Option.getD_some]
  repeat (go_big_quiet_step (fail))
  refine wpQuiet_nil ?_
  refine part_one rfl ?_
  go_wp2_with fail
  have V6 : Hid (Upd [mb] w5 (w5.setCell ⟨mb, 39, none⟩ (.slice A5 T.length c5))) := Lib.hid ((Upd.refl _ _).setCell (p := ⟨mb, 39, none⟩) (by simp) _)
  have M6 : Hid ((w5.setCell ⟨mb, 39, none⟩ (.slice A5 T.length c5)).heap[mb]? = some (.cells (mcells { s with trace := T } gb (.slice A5 T.length c5)).toArray 51 (0, 0))) := Lib.hid (by
    rw [heap_setCell_eq B5.out, ← mset_trace s gb tv (.slice A5 T.length c5) T ok.regs ok.csrs]; simp)
  generalize hX : World.setCell w5 _ _ = X at *
  clear hX c39 f39
  refine part_same ⟨⟨_, V6.out⟩, rfl⟩ ?_
  refine part_last ?_
  simp only [opsAt, List.map_cons, List.map_nil, List.getElem?_toArray, List.getElem?_cons_zero, List.getElem?_cons_succ, Option.getD_some]
  repeat (go_big_quiet_step (fail))
  refine wpQuiet_nil ?_
  unfold partEnd
  refine segs_end ?_
  go_wp2_with (fail)
  go_end0
  have hv : ∀ g, (Value.slice A5 T.length c5).ownBlock = some g → g ≠ mb ∧ g ≠ gb := fun g hg => by
    rcases HBK.out g hg with h | h
    · have := hown g h; omega
    · have : W.heap.size ≤ g := Nat.le_trans hs2 h
      omega
  refine ⟨rfl, .slice A5 T.length c5, ⟨by rw [← HT.out]; exact M6.out, V6.out.keep G5.out (by have := MW.out.ne; simp; exact this), ?_, MW.out.ne, htop⟩, ?_, fun g hg => ?_⟩
  · show Ow base _ _ (s.trace ++ [d])
    rw [← HT.out]
    exact own_upd O5'.out V6.out (fun g hg hs => by have := hv g hg; simp at hs; omega)
  · have h1 : Upd (mb :: gb :: tv.ownBlock.toList) W w5 := V5.out.mono (fun x hx _ => by simp only [List.mem_cons]; exact .inr (.inr hx))
    exact ((UW.out.mono (T := mb :: gb :: tv.ownBlock.toList) (fun x hx _ => by simp at hx)).trans h1).trans (V6.out.mono (T := mb :: gb :: tv.ownBlock.toList) (fun x hx _ => by simp at hx; simp [hx]))
  · rcases HBK.out g hg with h | h
    · exact .inl h
    · exact .inr (Nat.le_trans hWs (Nat.le_trans hs2 h))
end Go.Proofs.Ytggjmdgonjhioaa


namespace Go.Proofs.Ytggjmdgonjhioaa
open Go.RowKit Go.Dio
set_option linter.unusedSimpArgs false
set_option linter.unusedVariables false

def newS (ns : List Nat) : MSt := ⟨0, List.replicate 32 0, List.replicate 5 0, ns ++ List.replicate (1024 - ns.length) 0, [], false, 0, 0⟩
theorem newS_ok {ns : List Nat} (hl : ns.length ≤ 1024) (hs : ∀ x ∈ ns, x < 2 ^ 32) : MOk (newS ns) where
  regs := by simp [newS]
  csrs := by simp [newS]
  mem := by simp only [newS, List.length_append, List.length_replicate]; omega
  pc := by show 0 < 2 ^ 32; decide
  rlt := fun x hx => by obtain rfl := List.eq_of_mem_replicate (show x ∈ List.replicate 32 0 from hx); decide
  clt := fun x hx => by obtain rfl := List.eq_of_mem_replicate (show x ∈ List.replicate 5 0 from hx); decide
  mlt := fun x hx => by
    rcases List.mem_append.1 (show x ∈ ns ++ List.replicate (1024 - ns.length) 0 from hx) with h | h
    · exact hs x h
    · obtain rfl := List.eq_of_mem_replicate h; decide
  tlt := fun x hx => by cases hx
  code := by show 0 < 2 ^ 32; decide
set_option maxHeartbeats 1000000 in
theorem mnew_long (A : Option Addr) (n c : Nat) (z : World) (h : 1024 < n) :
    Calls Try.prog 6 #[.slice A n c] z fun e w' => e = .returned (.tuple #[.pointer none, .int .i64 3]) ∧ w' = z := by
  have hd : decide ((1024 : Int) < (n : Int)) = true := decide_eq_true (by omega)
  go_enter Try.func6, Try.ntmps6
  go_wp2_with (fail)
  go_ret2
  exact ⟨rfl, rfl⟩
theorem L_cpy2 {ops : Array Oper} {rest : List Oper} {o : Oper} {a : Act} {w : World} {Q : Exit → Act → World → Prop} (hgd : o.guard = none) (d s : Operand)
    (ho : o.op = .call { callee := .builtin .copy, args := #[d, s], argTypes := #[23, 23] }) (g n : Nat) (Z : List Nat) (hZ : Z = List.replicate n 0) (hd : a.eval d = .slice (some ⟨g, 0, none⟩) n n)
    (A : Option Addr) (m c : Nat) (l : List Nat) (hs : a.eval s = .slice A m c) (hm : l.length = m) (hA : NumsAt w .u32 A l) (hg : w.heap[g]? = some (.cells (nums .u32 Z) 31 (0, 0))) (hn : l.length ≤ n)
    (h : ∀ w', w'.heap[g]? = some (.cells (nums .u32 (l ++ List.replicate (n - l.length) 0)) 31 (0, 0)) → Upd [g] w w' → wpList Try.prog ops Q rest (a.put o.dst (goInt l.length)) w') :
    wpList Try.prog ops Q (o :: rest) a w := by
  subst hZ hm
  by_cases h0 : l.length = 0
  · obtain rfl : l = [] := List.eq_nil_of_length_eq_zero h0
    refine wpList_copy_nothing hgd d s 23 23 ho 31 Try.underlying23 (by kernel_rfl) (some ⟨g, 0, none⟩) A n n ([] : List Nat).length c hd hs (by simp) ?_
    exact h w (by simpa using hg) (Upd.refl _ _)
  · obtain ⟨b, o', hA', _, hc⟩ := hA (by omega)
    subst hA'
    have hh : (nums .u32 (List.replicate n 0)).size = n := by rw [nums_size, List.length_replicate]
    have hl : (vals .u32 l).length = l.length := vals_length _ _
    refine wpList_copy_own hgd d s 23 23 ho 31 Try.underlying23 (by kernel_rfl) g 0 n n ⟨b, o', none⟩ l.length c hd hs (nums .u32 (List.replicate n 0)) 31 hg (vals .u32 l) (by rw [hl]; exact (Nat.min_eq_left hn).symm) (fun j v hv => ?_) (by rw [hl, hh]; omega) (vals_one _ _) ?_
    · have hj : j < l.length := by have := (List.getElem?_eq_some_iff.1 hv).1; rwa [vals_length] at this
      rw [Addr.add_mid, hc j hj, ← hv, nth_eq l j hj]
      simp [vals, hj]
    · rw [hl]
      have hsp := splice_nums n l hn
      unfold splice at hsp
      rw [hl] at hsp
      refine h _ (by rw [setRow_heap _ _ _ _ _ _ hg]; first | rw [hsp] | skip) ⟨rfl, rfl, rfl, by simp [World.setRow], fun k hk hne => setRow_other _ _ _ _ (fun e => hne (by simp [e]))⟩
set_option maxRecDepth 20000 in
set_option maxHeartbeats 4000000 in
theorem mnew_calls (A : Option Addr) (ns : List Nat) (c : Nat) (zz : World) (hA : NumsAt zz .u32 A ns) (hl : ns.length ≤ 1024) :
    Calls Try.prog 6 #[.slice A ns.length c] zz fun e z' => e = .returned (.tuple #[.pointer (some ⟨zz.heap.size + 1, 0, none⟩), .int .i64 0]) ∧ MachAt (zz.heap.size + 1) zz.heap.size (zz.heap.size + 2) (.slice none 0 0) (newS ns) z' ∧ Upd [] zz z' := by
  obtain ⟨Z, hZ, hmk0⟩ := ex_rep 1024 (by decide)
  have hmk : ∀ u : World, (Instr.makeSlice 23 (.int .i64 1024) (.int .i64 1024)).run Try.prog u = .ok (.slice (some ⟨u.heap.size, 0, none⟩) 1024 1024) (u.alloc (.cells (nums .u32 Z) 31)) := hmk0
  have HZL := Lib.hid hZ
  have HA := Lib.hid hA
  clear hmk0 hZ hA
  obtain ⟨N, hN⟩ : ∃ N, N = ns.length := ⟨_, rfl⟩
  rw [← hN]
  have HN := Lib.hid hN
  rw [← hN] at hl
  have hd : decide ((1024 : Int) < (N : Int)) = false := decide_eq_false (by omega)
  clear hN
  have G0 := Lib.hid (heap_old (hl1 zz (.cells (nums .u32 Z) 31)) (.cells (mcells ⟨0, List.replicate 32 0, List.replicate 5 0, [], [], false, 0, 0⟩ zz.heap.size (.slice none 0 0)).toArray 51))
  have M0 := Lib.hid (hl2 zz (.cells (nums .u32 Z) 31) (.cells (mcells ⟨0, List.replicate 32 0, List.replicate 5 0, [], [], false, 0, 0⟩ zz.heap.size (.slice none 0 0)).toArray 51))
  have U0 := Lib.hid (((Upd.refl [] zz).alloc (.cells (nums .u32 Z) 31)).alloc (.cells (mcells ⟨0, List.replicate 32 0, List.replicate 5 0, [], [], false, 0, 0⟩ zz.heap.size (.slice none 0 0)).toArray 51))
  have S0 : ((zz.alloc (.cells (nums .u32 Z) 31)).alloc (.cells (mcells ⟨0, List.replicate 32 0, List.replicate 5 0, [], [], false, 0, 0⟩ zz.heap.size (.slice none 0 0)).toArray 51)).heap.size = zz.heap.size + 2 := by simp
  have A0 := Lib.hid (HA.out.of_upd U0.out)
  have hns : ns.length ≤ 1024 := by rw [← HN.out]; exact hl
  go_enter Try.func6, Try.ntmps6
  go_wp2_with (first | go_skip | ((with_reducible refine at_op 18 ?_); refine L_cpy2 rfl (.tmp 16) (.tmp 17) rfl zz.heap.size 1024 Z HZL.out rfl _ _ _ ns rfl HN.out.symm A0.out G0.out hns ?_))
  intro w' g1 u1
  have G1 := Lib.hid g1
  have U1 := Lib.hid u1
  clear g1 u1
  go_wp2_with (fail)
  go_ret2
  have hs1 : zz.heap.size + 2 ≤ w'.heap.size := by rw [← S0]; exact U1.out.size
  refine ⟨rfl, ⟨U1.out.keep M0.out (by simp), G1.out, ⟨rfl, .inl ⟨rfl, rfl⟩⟩, by omega, by omega, by omega⟩, ?_⟩
  exact U0.out.then U1.out (fun x hx hlt => by simp at hx; omega)
end Go.Proofs.Ytggjmdgonjhioaa

namespace Go.Proofs.Ytggjmdgonjhioaa
open Go.RowKit Go.Dio
set_option linter.unusedSimpArgs false
set_option linter.unusedVariables false

theorem nth_setN {l : List Nat} {i j v : Nat} (h : i ≠ j) : nth (l.set i v) j = nth l j := by simp [nth, List.getD, List.getElem?_set_ne h]
structure CsOk (cs : List Nat) : Prop where
  len : cs.length = 5
  lt : ∀ x ∈ cs, x < 2 ^ 32
  a0 : nth cs 0 % 4 = 0
  a2 : nth cs 2 % 4 = 0
theorem CsOk.at {cs : List Nat} (h : CsOk cs) (k : Nat) : nth cs k < 2 ^ 32 := nthB2 h.lt (by decide) k
theorem CsOk.set {cs : List Nat} (h : CsOk cs) (k n : Nat) (hn : n < 2 ^ 32) (h4 : k = 0 ∨ k = 2 → n % 4 = 0) : CsOk (cs.set k n) := by
  obtain ⟨a, b, c, d, e, rfl⟩ := csr5 h.len
  refine ⟨by simp, fun x hx => ?_, ?_, ?_⟩
  · rcases List.mem_or_eq_of_mem_set hx with h1 | rfl
    · exact h.lt x h1
    · exact hn
  · have := h.a0
    match k with
    | 0 => exact h4 (.inl rfl)
    | 1 => exact this
    | 2 => exact this
    | 3 => exact this
    | 4 => exact this
    | k + 5 => exact this
  · have := h.a2
    match k with
    | 0 => exact this
    | 1 => exact this
    | 2 => exact h4 (.inr rfl)
    | 3 => exact this
    | 4 => exact this
    | k + 5 => exact this
structure RGood (pc : Nat) (r : RetV) : Prop where
  pc : r.pc = (pc : Int)
  val : ∃ n : Nat, r.val = n ∧ n < 2 ^ 32
  rd : ∃ k : Nat, r.rd = k ∧ k < 32
  zero : r.rd = 0 → r.val = 0
  st : r.st = true → r.rd = 0 ∧ ∃ A d : Nat, r.addr = A ∧ r.data = d ∧ d < 2 ^ 32 ∧ A % 4 = 0 ∧ (A = 268435456 ∨ A = 268435460 ∨ A < 4096)
  no : r.st = false → r.addr = 0 ∧ r.data = 0 ∧ r.mask = 0
structure MGood (pc : Nat) (x : MadeV) : Prop where
  r : RGood pc x.r
  next : x.next < 2 ^ 32
  al : x.next % 4 = 0
  cs : CsOk x.csrs
theorem RGood.none (pc : Nat) : RGood pc ⟨(pc : Int), 0, 0, false, 0, 0, 0⟩ := ⟨rfl, ⟨0, rfl, by decide⟩, ⟨0, rfl, by decide⟩, fun _ => rfl, fun h => (by cases h), fun _ => ⟨rfl, rfl, rfl⟩⟩
theorem RGood.write (pc rd n : Nat) (hd : rd < 32) (hn : n < 2 ^ 32) : RGood pc (writeR pc rd n) := by
  unfold writeR
  by_cases h : rd = 0
  · rw [if_pos h]; exact RGood.none pc
  · rw [if_neg h]
    exact ⟨rfl, ⟨n, rfl, hn⟩, ⟨rd, rfl, hd⟩, fun h0 => absurd (show (rd : Int) = 0 from h0) (by exact_mod_cast h), fun h0 => (by cases h0), fun _ => ⟨rfl, rfl, rfl⟩⟩
theorem low2_lt {n : Nat} (h : n < 2 ^ 32) : low2 n < 2 ^ 32 := by unfold low2; omega
theorem low2_al (n : Nat) : low2 n % 4 = 0 := by unfold low2; omega
theorem pc4_al {pc : Nat} (h : pc % 4 = 0) : u32 ((pc : Int) + 4) % 4 = 0 := by unfold u32; omega
theorem trap_good (pc cause val : Nat) (cs : List Nat) (h : CsOk cs) (hp : pc < 2 ^ 32) (hc : cause < 2 ^ 32) (hv : val < 2 ^ 32) : MGood pc (trapP pc cs cause val) :=
  ⟨RGood.none pc, h.at 0, h.a0, ((h.set 2 _ (low2_lt hp) (fun _ => low2_al _)).set 3 _ hc (fun h => by omega)).set 4 _ hv (fun h => by omega)⟩
theorem jump_good (pc tg : Nat) (cs : List Nat) (i : InstV) (h : CsOk cs) (hp : pc < 2 ^ 32) (hv : tg < 2 ^ 32) (hd : i.rd < 32) : MGood pc (jumpP pc cs i tg) := by
  unfold jumpP
  by_cases ht : tg % 4 ≠ 0
  · rw [if_pos ht]; exact trap_good pc 0 tg cs h hp (by decide) hv
  · rw [if_neg ht]; exact ⟨RGood.write pc _ _ hd (u32_lt _), hv, by show tg % 4 = 0; omega, h⟩
theorem access_low {op addr : Nat} (h : (accessP op addr).2 = false) (h1 : 16 ≤ op) (h2 : op ≤ 18) : low2 addr = 268435456 ∨ low2 addr = 268435460 ∨ low2 addr < 4096 := by
  have hf := access_ok h ⟨by omega, h2⟩
  unfold accessP at h
  have hs : sizeP op ≠ 0 := by
    rcases (by omega : op = 16 ∨ op = 17 ∨ op = 18) with rfl | rfl | rfl <;> decide
  rw [if_neg hs, if_neg (by rw [hf]; decide)] at h
  unfold low2
  by_cases hc : addr < 4096 ∨ (op = 18 ∧ devP addr = true)
  · rcases hc with h | ⟨_, h⟩
    · omega
    · unfold devP at h
      simp only [Bool.or_eq_true, decide_eq_true_eq] at h
      omega
  · rw [if_neg hc] at h; cases h
theorem move_good (pc a b : Nat) (cs : List Nat) (i : InstV) (word : Nat) (h : CsOk cs) (hp : pc < 2 ^ 32) (h4 : pc % 4 = 0) (hb : b < 2 ^ 32) (hw : word < 2 ^ 32) (hd : i.rd < 32) (ho : 11 ≤ i.op ∧ i.op ≤ 18) : MGood pc (moveP pc a b cs i word) := by
  unfold moveP
  dsimp only
  by_cases ht : (accessP i.op (u32 ((a : Int) + i.imm))).2 = true
  · rw [if_pos ht]; exact trap_good pc _ _ cs h hp (accessP_lt _ _) (u32_lt _)
  · rw [if_neg ht]
    have hf : (accessP i.op (u32 ((a : Int) + i.imm))).2 = false := by simpa using ht
    by_cases hl : i.op ≤ 15
    · rw [if_pos hl]; exact ⟨RGood.write pc _ _ hd (loadP_lt _ _ _ hw), u32_lt ((pc : Int) + 4), pc4_al h4, h⟩
    · rw [if_neg hl]
      refine ⟨⟨rfl, ⟨0, rfl, by decide⟩, ⟨0, rfl, by decide⟩, fun _ => rfl, fun _ => ⟨rfl, _, _, rfl, rfl, storeD_lt _ _ _ hb ⟨by omega, ho.2⟩ (access_ok hf ho), low2_al _, access_low hf (by omega) ho.2⟩, fun h => (by cases h)⟩, ?_, ?_, h⟩
      · show (if _ then _ else _) < _
        split
        · exact hp
        · exact u32_lt _
      · show (if _ then _ else _) % _ = _
        split
        · exact h4
        · exact pc4_al h4
theorem csrN_lt (op r1 a old : Nat) (hr : r1 < 2 ^ 32) (ha : a < 2 ^ 32) (ho : old < 2 ^ 32) : csrN op r1 a old < 2 ^ 32 := by
  unfold csrN
  dsimp only
  have hn : (if 53 ≤ op then r1 else a) < 2 ^ 32 := by split <;> assumption
  split
  · exact ho
  · split
    · exact Nat.or_lt_two_pow hn ho
    · split
      · exact Nat.lt_of_le_of_lt Nat.and_le_left ho
      · exact hn
theorem csr_good (pc w a : Nat) (cs : List Nat) (i : InstV) (h : CsOk cs) (hp : pc < 2 ^ 32) (h4 : pc % 4 = 0) (hw : w < 2 ^ 32) (ha : a < 2 ^ 32) (hd : i.rd < 32) (hr : i.r1 < 32) : MGood pc (csrP pc w a cs i) := by
  unfold csrP
  by_cases hk : idxP i.imm < 0
  · rw [if_pos hk]; exact trap_good pc 2 w cs h hp (by decide) hw
  · rw [if_neg hk]
    dsimp only
    have hN := csrN_lt i.op i.r1 a (nth cs (idxP i.imm).toNat) (by omega) ha (h.at _)
    refine ⟨RGood.write pc _ _ hd (h.at _), u32_lt ((pc : Int) + 4), pc4_al h4, h.set _ _ ?_ (fun hk => ?_)⟩
    · split
      · exact low2_lt hN
      · exact hN
    · rw [if_pos hk]; exact low2_al _
theorem do_good (pc w a b : Nat) (cs : List Nat) (word : Nat) (h : CsOk cs) (hp : pc < 2 ^ 32) (h4 : pc % 4 = 0) (hw : w < 2 ^ 32) (ha : a < 2 ^ 32) (hb : b < 2 ^ 32) (hwd : word < 2 ^ 32) : MGood pc (doP pc w a b cs word) := by
  rw [doP_eq]
  have wf := decodeP_wf w
  generalize decodeP w = i at *
  obtain ⟨op, rd, r1, r2, imm⟩ := i
  obtain ⟨h55, hd, h1, h2, hi1, hi2⟩ := wf
  dsimp only at h55 hd h1 h2 hi1 hi2
  unfold doI
  dsimp only
  by_cases c1 : op = 0
  · rw [if_pos c1]; exact trap_good pc 2 w cs h hp (by decide) hw
  rw [if_neg c1]
  by_cases c2 : op = 47
  · rw [if_pos c2]; exact trap_good pc 11 0 cs h hp (by decide) (by decide)
  rw [if_neg c2]
  by_cases c3 : op = 48
  · rw [if_pos c3]; exact trap_good pc 3 0 cs h hp (by decide) (by decide)
  rw [if_neg c3]
  by_cases c4 : op = 49
  · rw [if_pos c4]; exact ⟨RGood.none pc, h.at 2, h.a2, h⟩
  rw [if_neg c4]
  by_cases c5 : 50 ≤ op
  · rw [if_pos c5]; exact csr_good pc w a cs ⟨op, rd, r1, r2, imm⟩ h hp h4 hw ha hd h1
  rw [if_neg c5]
  by_cases c6 : op = 3
  · rw [if_pos c6]; exact jump_good pc _ cs ⟨op, rd, r1, r2, imm⟩ h hp (u32_lt _) hd
  rw [if_neg c6]
  by_cases c7 : op = 4
  · rw [if_pos c7]; exact jump_good pc _ cs ⟨op, rd, r1, r2, imm⟩ h hp (by have := u32_lt ((a : Int) + imm); omega) hd
  rw [if_neg c7]
  by_cases c8 : takenP op a b = true
  · rw [if_pos c8]; exact jump_good pc _ cs ⟨op, rd, r1, r2, imm⟩ h hp (u32_lt _) hd
  rw [if_neg c8]
  by_cases c9 : 11 ≤ op ∧ op ≤ 18
  · rw [if_pos c9]; exact move_good pc a b cs ⟨op, rd, r1, r2, imm⟩ word h hp h4 hb hwd hd c9
  rw [if_neg c9]
  refine ⟨?_, u32_lt ((pc : Int) + 4), pc4_al h4, h⟩
  show RGood pc (if op = 1 then _ else _)
  by_cases d1 : op = 1
  · rw [if_pos d1]; exact RGood.write pc rd _ hd (u32_lt _)
  rw [if_neg d1]
  by_cases d2 : op = 2
  · rw [if_pos d2]; exact RGood.write pc rd _ hd (u32_lt _)
  rw [if_neg d2]
  by_cases d3 : 19 ≤ op ∧ op ≤ 27
  · rw [if_pos d3]; exact RGood.write pc rd _ hd (aluP_lt op _ _ ⟨d3.1, by omega⟩ ha (u32_lt _))
  rw [if_neg d3]
  by_cases d4 : 28 ≤ op ∧ op ≤ 45
  · rw [if_pos d4]; exact RGood.write pc rd _ hd (aluP_lt op _ _ ⟨by omega, d4.2⟩ ha hb)
  rw [if_neg d4]
  exact RGood.none pc
/-- What holds of a machine besides. -/
structure MInv (s : MSt) : Prop where
  ok : MOk s
  al : s.pc % 4 = 0
  cs : CsOk s.csrs
  z : nth s.regs 0 = 0
theorem made_good {s : MSt} (h : MInv s) : MGood s.pc (madeP s) := by
  unfold madeP
  split
  · refine trap_good s.pc _ _ _ h.cs h.ok.pc ?_ h.ok.pc
    unfold fetchP; split
    · decide
    · split <;> decide
  · exact do_good _ _ _ _ _ _ h.cs h.ok.pc h.al (nthB2 h.ok.mlt (by decide) _) (nthB2 h.ok.rlt (by decide) _) (nthB2 h.ok.rlt (by decide) _) (nthB2 h.ok.mlt (by decide) _)
theorem newS_inv {ns : List Nat} (hl : ns.length ≤ 1024) (hs : ∀ x ∈ ns, x < 2 ^ 32) : MInv (newS ns) :=
  ⟨newS_ok hl hs, rfl, ⟨rfl, (newS_ok hl hs).clt, rfl, rfl⟩, rfl⟩
/-- A machine after the registers, before the store. -/
def regS (s : MSt) : MSt := { s with pc := (madeP s).next, csrs := (madeP s).csrs, regs := if (madeP s).r.rd = 0 then s.regs else s.regs.set (madeP s).r.rd.toNat (madeP s).r.val.toNat, steps := s.steps + 1 }
theorem stepP_eq (s : MSt) (h : MInv s) (hh : s.halted = false) : stepP s = if (madeP s).r.st = true then stS (regS s) (madeP s).r.addr.toNat (madeP s).r.data.toNat (madeP s).r.mask else regS s := by
  unfold stepP
  rw [if_neg (by rw [hh]; decide)]
  dsimp only
  by_cases c : (madeP s).r.st = true
  · rw [if_pos c, if_pos c]
    have g := (made_good h).r.st c
    obtain ⟨_, A, d, hA, hd, _⟩ := g
    unfold stS regS
    dsimp only
    rw [hA, hd]
    simp only [Int.toNat_natCast]
    by_cases e1 : A = 268435456
    · rw [if_pos (by omega), if_pos e1]
    · rw [if_neg (by omega), if_neg e1]
      by_cases e2 : A = 268435460
      · rw [if_pos (by omega), if_pos e2]
      · rw [if_neg (by omega), if_neg e2]
  · rw [if_neg c, if_neg c]; rfl
theorem regS_inv {s : MSt} (h : MInv s) : MInv (regS s) := by
  have g := made_good h
  obtain ⟨n, hn, hn2⟩ := g.r.val
  obtain ⟨k, hk, hk2⟩ := g.r.rd
  by_cases h0 : (madeP s).r.rd = 0
  · have e : regS s = { s with pc := (madeP s).next, csrs := (madeP s).csrs, steps := s.steps + 1 } := by unfold regS; rw [if_pos h0]
    rw [e]
    exact ⟨⟨h.ok.regs, g.cs.len, h.ok.mem, g.next, h.ok.rlt, g.cs.lt, h.ok.mlt, h.ok.tlt, h.ok.code⟩, g.al, g.cs, h.z⟩
  · have e : regS s = { s with pc := (madeP s).next, csrs := (madeP s).csrs, regs := s.regs.set k n, steps := s.steps + 1 } := by unfold regS; rw [if_neg h0, hn, hk]; rfl
    rw [e]
    refine ⟨⟨by show (List.set _ _ _).length = _; rw [List.length_set]; exact h.ok.regs, g.cs.len, h.ok.mem, g.next, fun x hx => ?_, g.cs.lt, h.ok.mlt, h.ok.tlt, h.ok.code⟩, g.al, g.cs, ?_⟩
    · rcases List.mem_or_eq_of_mem_set hx with h1 | rfl
      · exact h.ok.rlt x h1
      · exact hn2
    · show nth (s.regs.set k n) 0 = 0
      rw [nth_setN (by rw [hk] at h0; omega)]
      exact h.z
theorem mrg_lt (a d : Nat) (m : Int) (ha : a < 2 ^ 32) (hd : d < 2 ^ 32) : mrg a d m < 2 ^ 32 := mrgK_lt ha hd 4
theorem stS_inv {s : MSt} (h : MInv s) (A d : Nat) (m : Int) (hd : d < 2 ^ 32) : MInv (stS s A d m) := by
  unfold stS
  split
  · exact ⟨⟨h.ok.regs, h.ok.csrs, h.ok.mem, h.ok.pc, h.ok.rlt, h.ok.clt, h.ok.mlt, fun x hx => by
      rcases List.mem_append.1 hx with hx | hx
      · exact h.ok.tlt x hx
      · obtain rfl : x = d := by simpa using hx
        exact hd, h.ok.code⟩, h.al, h.cs, h.z⟩
  · split
    · exact ⟨⟨h.ok.regs, h.ok.csrs, h.ok.mem, h.ok.pc, h.ok.rlt, h.ok.clt, h.ok.mlt, h.ok.tlt, hd⟩, h.al, h.cs, h.z⟩
    · exact ⟨⟨h.ok.regs, h.ok.csrs, by show (List.set _ _ _).length = _; rw [List.length_set]; exact h.ok.mem, h.ok.pc, h.ok.rlt, h.ok.clt, fun x hx => by
        rcases List.mem_or_eq_of_mem_set hx with h1 | rfl
        · exact h.ok.mlt x h1
        · exact mrg_lt _ _ _ (nthB2 h.ok.mlt (by decide) _) hd, h.ok.tlt, h.ok.code⟩, h.al, h.cs, h.z⟩
theorem step_inv {s : MSt} (h : MInv s) : MInv (stepP s) := by
  by_cases hh : s.halted = true
  · unfold stepP; rw [if_pos hh]; exact h
  · have hf : s.halted = false := by simpa using hh
    rw [stepP_eq s h hf]
    split
    · rename_i hst
      obtain ⟨_, A, d, hA, hd, hd2, _⟩ := (made_good h).r.st hst
      exact stS_inv (regS_inv h) _ _ _ (by rw [hd]; exact hd2)
    · exact regS_inv h
end Go.Proofs.Ytggjmdgonjhioaa
