/- The reference's machine: a step. -/
import Derived.Test.YtggjmdgonjhioaaGreatQZ40
import Derived.Test.YtggjmdgonjhioaaGreatQZ42
import Derived.Test.YtggjmdgonjhioaaGreatQZ11
import Derived.Test.YtggjmdgonjhioaaGreatQZ45
namespace Go.Proofs.YtggjmdgonjhioaaGreat
open Go.RowKit Go.Dio
set_option linter.unusedSimpArgs false
set_option linter.unusedVariables false

theorem plainR_st (pc a b : Nat) (i : InstV) : (plainR pc a b i).st = false := by
  unfold plainR; split; exact writeR_st _ _ _; split; exact writeR_st _ _ _; split; exact writeR_st _ _ _; split; exact writeR_st _ _ _; rfl
/-- One instruction of the reference. -/
theorem rdo_calls (rb gb base : Nat) (tv : Value) (s : MSt) (zz : World) (M : RfAt rb gb base tv s zz) (iv : MInv s) (hbz : base ≤ zz.heap.size) (htr : s.trace.length ≤ 4000) (w : Nat) (hw : w < 2 ^ 32) (D : InstV) (hD : D = decodeP w) (h0 : D.op ≠ 0) :
    Calls Tryz.prog 33 #[.pointer (some ⟨rb, 0, none⟩), .agg D.arr, .int .u32 (w : Int)] zz fun e z' =>
      RfF rb gb base tv (finS s (doI s.pc w (nth s.regs D.r1) (nth s.regs D.r2) s.csrs (nth s.mem (u32 (((nth s.regs D.r1 : Nat) : Int) + D.imm) / 4)) D)) (doI s.pc w (nth s.regs D.r1) (nth s.regs D.r2) s.csrs (nth s.mem (u32 (((nth s.regs D.r1 : Nat) : Int) + D.imm) / 4)) D).r zz e z' := by
  have wf := decodeP_wf w
  rw [← hD] at wf
  have ho := wf.1
  rcases (by omega : (3 ≤ D.op ∧ D.op ≤ 10) ∨ (11 ≤ D.op ∧ D.op ≤ 18) ∨ 50 ≤ D.op ∨ D.op = 47 ∨ D.op = 48 ∨ D.op = 49 ∨ D.op = 1 ∨ D.op = 2 ∨ (19 ≤ D.op ∧ D.op ≤ 27) ∨ (28 ≤ D.op ∧ D.op ≤ 45) ∨ D.op = 46) with h | h | h | h | h | h | h | h | h | h | h
  · rw [doI_jump _ _ _ _ _ _ _ h]
    refine (rdo_jump rb gb base tv s zz M iv w hw D hD h).mono ?_
    intro e z' r
    exact r.fin (jumpX_st _ _ _ _ _)
  · rw [doI_move _ _ _ _ _ _ _ h]
    exact rdo_move rb gb base tv s zz M iv hbz htr w hw D hD h
  · rw [doI_csr _ _ _ _ _ _ _ h]
    refine (rdo_csr rb gb base tv s zz M iv w hw D hD h).mono ?_
    intro e z' r
    exact r.fin (csrP_st _ _ _ _ _)
  · have e1 : ∀ a b v, doI s.pc w a b s.csrs v D = trapP s.pc s.csrs 11 0 := fun a b v => by unfold doI; rw [if_neg (by omega), if_pos h]
    rw [e1]
    refine (rdo_ecall rb gb base tv s zz M iv w hw D hD h).mono ?_
    intro e z' r
    exact r.fin rfl
  · have e1 : ∀ a b v, doI s.pc w a b s.csrs v D = trapP s.pc s.csrs 3 0 := fun a b v => by unfold doI; rw [if_neg (by omega), if_neg (by omega), if_pos h]
    rw [e1]
    refine (rdo_ebreak rb gb base tv s zz M iv w hw D hD h).mono ?_
    intro e z' r
    exact r.fin rfl
  · have e1 : ∀ a b v, doI s.pc w a b s.csrs v D = ⟨pcR s.pc, nth s.csrs 2, s.csrs⟩ := fun a b v => by unfold doI; rw [if_neg (by omega), if_neg (by omega), if_neg (by omega), if_pos h]; rfl
    rw [e1]
    refine (rdo_mret rb gb base tv s zz M iv w hw D hD h).mono ?_
    intro e z' r
    exact r.fin rfl
  · rw [doI_plain _ _ _ _ _ _ _ (by omega)]
    refine (rdo_lui rb gb base tv s zz M iv w hw D hD h).mono ?_
    intro e z' r
    exact r.fin (plainR_st _ _ _ _)
  · rw [doI_plain _ _ _ _ _ _ _ (by omega)]
    refine (rdo_auipc rb gb base tv s zz M iv w hw D hD h).mono ?_
    intro e z' r
    exact r.fin (plainR_st _ _ _ _)
  · rw [doI_plain _ _ _ _ _ _ _ (by omega)]
    refine (rdo_imm rb gb base tv s zz M iv w hw D hD h).mono ?_
    intro e z' r
    exact r.fin (plainR_st _ _ _ _)
  · rw [doI_plain _ _ _ _ _ _ _ (by omega)]
    refine (rdo_reg rb gb base tv s zz M iv w hw D hD h).mono ?_
    intro e z' r
    exact r.fin (plainR_st _ _ _ _)
  · rw [doI_plain _ _ _ _ _ _ _ (by omega)]
    refine (rdo_fence rb gb base tv s zz M iv w hw D hD h).mono ?_
    intro e z' r
    exact r.fin (plainR_st _ _ _ _)
/-- What is behind a step of the reference's. -/
def RfS (rb gb base : Nat) (tv : Value) (s : MSt) (zz w' : World) : Prop :=
  ∃ tv', RfAt rb gb base tv' s w' ∧ Upd (rb :: gb :: tv.ownBlock.toList) zz w' ∧ ∀ g, tv'.ownBlock = some g → tv.ownBlock = some g ∨ zz.heap.size ≤ g
set_option maxRecDepth 20000 in
set_option maxHeartbeats 4000000 in
theorem rstep_halted (rb gb base : Nat) (tv : Value) (s : MSt) (zz : World) (M : RfAt rb gb base tv s zz) (ok : MOk s) (hh : s.halted = true) :
    Calls Tryz.prog 13 #[.pointer (some ⟨rb, 0, none⟩)] zz fun e z' => e = .returned (.tuple #[.agg (retL ⟨0, 0, 0, false, 0, 0, 0⟩).toArray, .bool false]) ∧ Upd [] zz z' := by
  have c40 : (zz.alloc (.cells #[.int .u32 0, .int .u32 0, .int .i64 0, .bool false, .int .u32 0, .int .u32 0, .int .i64 0] 38)).cell? ⟨rb, 40, none⟩ = some (.bool true) := by
    rw [(M.upd0 ((Upd.refl [] zz).alloc _)).cAt 40, mc_tail s gb tv 2 ok.regs ok.csrs, hh]; rfl
  have R0 := Lib.hid (hl1 zz (.cells #[.int .u32 0, .int .u32 0, .int .i64 0, .bool false, .int .u32 0, .int .u32 0, .int .i64 0] 38))
  have U0 := Lib.hid ((Upd.refl [] zz).alloc (.cells #[.int .u32 0, .int .u32 0, .int .i64 0, .bool false, .int .u32 0, .int .u32 0, .int .i64 0] 38))
  clear M ok
  go_enter Tryz.func13, Tryz.ntmps13
  go_wp2_with (first
    | go_skip
    | ((with_reducible refine at_st 2 ?_); refine L_store_row 38 (.tmp 2) (.tmp 14) rfl (by kernel_rfl) zz.heap.size 0 rfl (retL ⟨0, 0, 0, false, 0, 0, 0⟩) 38 R0.out (retL ⟨0, 0, 0, false, 0, 0, 0⟩).toArray rfl 7 info_ret rfl (by decide) (retL_one _) ?_))
  intro wA bA uA zA
  rw [spl_all (by rfl)] at bA
  go_wp2_with (fail)
  refine bodyPost_ret (results_row_tmp rfl _ _ zz.heap.size 38 (retL ⟨0, 0, 0, false, 0, 0, 0⟩).toArray _ _ _ rfl rfl bA Tryz.underlying38 rfl info_ret) rfl ⟨rfl, ?_⟩
  exact U0.out.then uA (fun x hx hlt => by simp at hx; omega)
theorem minv_steps {s : MSt} (iv : MInv s) (n : Nat) : MInv { s with steps := n } :=
  ⟨⟨iv.ok.regs, iv.ok.csrs, iv.ok.mem, iv.ok.pc, iv.ok.rlt, iv.ok.clt, iv.ok.mlt, iv.ok.tlt, iv.ok.code⟩, iv.al, iv.cs, iv.z⟩
theorem step_fin {s : MSt} (iv : MInv s) (hh : s.halted = false) : stepP s = finS { s with steps := s.steps + 1 } (madeP s) := by
  rw [stepP_eq s iv hh]; rfl
theorem fetch_in {pc : Nat} (h : (fetchP pc).2 = false) : pc % 4 = 0 ∧ pc < 4096 := by
  unfold fetchP at h
  by_cases h1 : pc % 4 ≠ 0
  · rw [if_pos h1] at h; cases h
  · by_cases h2 : 4096 ≤ pc
    · rw [if_neg h1, if_pos h2] at h; cases h
    · omega
theorem fetch_c (pc : Nat) : (fetchP pc).1 < 2 ^ 32 := by unfold fetchP; split; decide; split <;> decide
set_option maxRecDepth 20000 in
set_option maxHeartbeats 8000000 in
theorem rstep_runs (rb gb base : Nat) (tv : Value) (s : MSt) (zz : World) (M : RfAt rb gb base tv s zz) (iv : MInv s) (hh : s.halted = false) (hbz : base ≤ zz.heap.size) (htr : s.trace.length ≤ 4000) (hsn : s.steps ≤ 1000000) :
    Calls Tryz.prog 13 #[.pointer (some ⟨rb, 0, none⟩)] zz fun e z' => e = .returned (.tuple #[.agg (retL (madeP s).r).toArray, .bool true]) ∧ RfS rb gb base tv (stepP s) zz z' := by
  have SF := Lib.hid (step_fin iv hh)
  have iv1 := Lib.hid (minv_steps iv (s.steps + 1))
  have hlt := lt_of_block M.cell
  have hgl := lt_of_block M.mem
  have hne := M.ne
  have htop := M.top
  have hown : ∀ g, tv.ownBlock = some g → g < zz.heap.size := fun g hg => (World.ownsRow.lt M.own g hg).2
  have c40 : (zz.alloc (.cells #[.int .u32 0, .int .u32 0, .int .i64 0, .bool false, .int .u32 0, .int .u32 0, .int .i64 0] 38)).cell? ⟨rb, 40, none⟩ = some (.bool false) := by
    rw [(M.upd0 ((Upd.refl [] zz).alloc _)).cAt 40, mc_tail s gb tv 2 iv.ok.regs iv.ok.csrs, hh]; rfl
  have c42 : (zz.alloc (.cells #[.int .u32 0, .int .u32 0, .int .i64 0, .bool false, .int .u32 0, .int .u32 0, .int .i64 0] 38)).cell? ⟨rb, 42, none⟩ = some (.int .i64 (s.steps : Int)) := by
    rw [(M.upd0 ((Upd.refl [] zz).alloc _)).cAt 42, mc_tail s gb tv 4 iv.ok.regs iv.ok.csrs]; rfl
  have R0 := Lib.hid (hl1 zz (.cells #[.int .u32 0, .int .u32 0, .int .i64 0, .bool false, .int .u32 0, .int .u32 0, .int .i64 0] 38))
  have U0 := Lib.hid ((Upd.refl [] zz).alloc (.cells #[.int .u32 0, .int .u32 0, .int .i64 0, .bool false, .int .u32 0, .int .u32 0, .int .i64 0] 38))
  have M0 := Lib.hid (M.upd0 U0.out)
  clear M hh
  go_enter Tryz.func13, Tryz.ntmps13
  go_wp2_with (first
    | go_skip
    | ((with_reducible refine at_st 21 ?_); refine L_store_int 3 (.tmp 21) (.tmp 19) rfl (by kernel_rfl) rb 42 rfl (mcells s gb tv) 65 M0.out.cell .i64 ((s.steps : Int) + 1) rfl info_int1 (by rw [mcells_len s gb tv iv.ok.regs iv.ok.csrs]; decide) ?_))
  intro w1 b1 u1 z1
  rw [show ((s.steps : Int) + 1) = ((s.steps + 1 : Nat) : Int) from rfl, mset_steps s gb tv _ iv.ok.regs iv.ok.csrs] at b1
  have M1 : Hid (RfAt rb gb base tv { s with steps := s.steps + 1 } w1) := Lib.hid (M0.out.set u1 b1 rfl rfl)
  have R1 := Lib.hid (u1.keep R0.out (by simp; omega))
  have U1 := Lib.hid ((U0.out.mono (T := [rb]) (by simp)).trans u1)
  clear b1 u1 z1 M0 R0 U0 c40 c42
  have c0 : w1.cell? ⟨rb, 0, none⟩ = some (.int .u32 (s.pc : Int)) := by rw [M1.out.cAt 0]; rfl
  have FT := Lib.hid (fun z => r7fetch_calls s.pc z iv.ok.pc)
  cases hf : (fetchP s.pc).2
  · obtain ⟨h4, hin⟩ := fetch_in hf
    have MR := Lib.hid (madeP_ref s hf)
    rw [hf] at FT
    have hq2 : s.pc / 4 < s.mem.length := by rw [iv.ok.mem]; omega
    have c38 : w1.cell? ⟨rb, 38, none⟩ = some (.slice (some ⟨gb, 0, none⟩) 1024 1024) := by rw [M1.out.cAt 38, mc_tail { s with steps := s.steps + 1 } gb tv 0 iv.ok.regs iv.ok.csrs]; rfl
    have cw : w1.cell? ⟨gb, s.pc / 4, none⟩ = some (.int .u32 ((nth s.mem (s.pc / 4) : Nat) : Int)) := by rw [cells_of M1.out.mem]; exact nums_nth .u32 s.mem _ hq2
    have q1 : (s.pc : Int) / 4 = ((s.pc / 4 : Nat) : Int) := by omega
    have q2 : (s.pc : Int).tdiv 4 = ((s.pc / 4 : Nat) : Int) := by rw [Int.tdiv_eq_ediv_of_nonneg (by omega)]; omega
    have b1 : decide (((s.pc / 4 : Nat) : Int) < 1024) = true := decide_eq_true (by omega)
    have hwl : nth s.mem (s.pc / 4) < 2 ^ 32 := nthB2 iv.ok.mlt (by decide) _
    obtain ⟨w, hw⟩ : ∃ w, w = nth s.mem (s.pc / 4) := ⟨_, rfl⟩
    rw [← hw] at cw hwl MR
    obtain ⟨q, hq⟩ : ∃ q, q = s.pc / 4 := ⟨_, rfl⟩
    rw [← hq] at cw q1 q2 b1
    have hq10 : q < 1024 := by omega
    have qm1 : q % 4294967296 = q := Nat.mod_eq_of_lt (by omega)
    have qm2 : (q : Int) % 4294967296 = (q : Int) := by omega
    clear hw hq hq2 h4 hin hf
    have DC := Lib.hid (fun z => rdecode_calls w hwl z)
    obtain ⟨D, hD⟩ : ∃ D, D = decodeP w := ⟨_, rfl⟩
    rw [← hD] at DC MR
    have HD := Lib.hid hD
    clear hD
    go_wp2_with (fail)
    refine (FT.out _).mono ?_
    rintro e zf ⟨rfl, hzf⟩
    subst hzf
    go_wp2_with (fail)
    refine (DC.out _).mono ?_
    rintro e w2 ⟨rfl, u2⟩
    have M2 := Lib.hid (M1.out.upd0 (u2.alloc (.cells D.arr 50)))
    have R2 := Lib.hid ((u2.alloc (.cells D.arr 50)).keep R1.out (by simp))
    have I2 := Lib.hid (hl1 w2 (.cells D.arr 50))
    have U2 := Lib.hid (U1.out.trans ((u2.alloc (.cells D.arr 50)).mono (by simp)))
    clear u2 M1 R1 U1 c0 c38 cw
    by_cases h0 : D.op = 0
    · have dz : decide (D.op ≠ 0) = false := decide_eq_false (by omega)
      rw [dz]
      have EM : Hid (madeP s = trapP s.pc s.csrs 2 w) := Lib.hid (by rw [MR.out]; unfold doI; rw [if_pos h0])
      clear dz h0 MR
      go_wp2_with (first
        | go_skip
        | ((with_reducible refine at_st 8 ?_); refine L_store_new 50 (.tmp 8) (.tmp 50) rfl (by kernel_rfl) _ D.arr rfl rfl 5 info_inst rfl rfl (InstV.one D) ?_))
      refine (rtrap_calls rb gb base tv { s with steps := s.steps + 1 } _ M2.out iv.ok.regs iv.ok.csrs s.pc 2 w iv.ok.pc (by decide) hwl).mono ?_
      rintro e w3 ⟨rfl, m3, u3⟩
      have M3 := Lib.hid m3
      have R3 := Lib.hid (u3.keep R2.out (by simp; omega))
      have V3 := Lib.hid (U2.out.trans u3)
      clear m3 u3 M2 R2 U2 I2
      go_wp2_with (first
        | go_skip
        | ((with_reducible refine at_st 2 ?_); refine L_store_row 38 (.tmp 2) (.tmp 57) rfl (by kernel_rfl) zz.heap.size 0 rfl (retL ⟨0, 0, 0, false, 0, 0, 0⟩) 38 R3.out (retL (pcR s.pc)).toArray rfl 7 info_ret rfl (by decide) (retL_one _) ?_))
      intro wA bA uA zA
      rw [spl_all (by rfl)] at bA
      go_wp2_with (fail)
      refine bodyPost_ret (results_row_tmp rfl _ _ zz.heap.size 38 (retL (pcR s.pc)).toArray _ _ _ rfl rfl bA Tryz.underlying38 rfl info_ret) rfl ⟨by first | rfl | (rw [EM.out]; rfl), ?_⟩
      rw [SF.out, EM.out]
      exact ⟨tv, M3.out.upd uA (by simp; omega) (by simp; omega) (fun g hg => by have := hown g hg; simp; omega), (V3.out.mono (T := rb :: gb :: tv.ownBlock.toList) (fun x hx _ => by simp at hx; simp [hx])).then uA (fun x hx hlt => by simp at hx; omega), fun g hg => .inl hg⟩
    · have dz : decide (D.op ≠ 0) = true := decide_eq_true h0
      rw [dz]
      have hbz2 : base ≤ (w2.alloc (.cells D.arr 50)).heap.size := Nat.le_trans hbz U2.out.size
      have J := rdo_calls rb gb base tv { s with steps := s.steps + 1 } _ M2.out iv1.out hbz2 htr w hwl D HD.out h0
      dsimp only at J
      rw [← MR.out] at J
      have J2 := Lib.hid J
      have h0' := Lib.hid h0
      clear J dz h0 MR
      obtain ⟨X, hX⟩ : ∃ X, X = madeP s := ⟨_, rfl⟩
      rw [← hX] at J2 SF
      have HXM := Lib.hid hX.symm
      clear hX
      go_wp2_with (first
        | go_skip
        | ((with_reducible refine at_st 8 ?_); refine L_store_new 50 (.tmp 8) (.tmp 50) rfl (by kernel_rfl) _ D.arr rfl rfl 5 info_inst rfl rfl (InstV.one D) ?_)
        | ((with_reducible refine at_op 59 ?_); refine L_load 50 (.tmp 8) rfl (by kernel_rfl) _ _ rfl D.arr (row_allR I2.out) Tryz.underlying50 rfl 5 info_inst rfl ?_))
      refine J2.out.mono ?_
      rintro e w3 ⟨rfl, tv3, m3, u3, o3⟩
      have hz2 : zz.heap.size < (w2.alloc (.cells D.arr 50)).heap.size := lt_of_block R2.out
      have hnot : zz.heap.size ∉ (rb :: gb :: tv.ownBlock.toList) := fun h => by
        simp only [List.mem_cons, Option.mem_toList] at h
        rcases h with h | h | h
        · omega
        · omega
        · have := hown _ h; omega
      have M3 := Lib.hid m3
      have R3 := Lib.hid (u3.keep R2.out hnot)
      have V3 := Lib.hid ((U2.out.mono (T := rb :: gb :: tv.ownBlock.toList) (fun x hx _ => by simp at hx; simp [hx])).trans u3)
      have O3 := Lib.hid o3
      have hsz := U2.out.size
      clear m3 u3 o3 M2 R2 U2 I2 hnot
      go_wp2_with (first
        | go_skip
        | ((with_reducible refine at_st 2 ?_); refine L_store_row 38 (.tmp 2) (.tmp 61) rfl (by kernel_rfl) zz.heap.size 0 rfl (retL ⟨0, 0, 0, false, 0, 0, 0⟩) 38 R3.out (retL X.r).toArray rfl 7 info_ret rfl (by decide) (retL_one _) ?_))
      intro wA bA uA zA
      rw [spl_all (by rfl)] at bA
      go_wp2_with (fail)
      refine bodyPost_ret (results_row_tmp rfl _ _ zz.heap.size 38 (retL X.r).toArray _ _ _ rfl rfl bA Tryz.underlying38 rfl info_ret) rfl ⟨by first | rfl | (rw [HXM.out]; rfl), ?_⟩
      rw [SF.out]
      exact ⟨tv3, M3.out.upd uA (by simp; omega) (by simp; omega) (fun g hg => by
        rcases O3.out g hg with h | h
        · have := hown g h; simp; omega
        · simp; omega), V3.out.then uA (fun x hx hlt => by simp at hx; omega), fun g hg => by
        rcases O3.out g hg with h | h
        · exact .inl h
        · exact .inr (by omega)⟩
  · have EM : Hid (madeP s = trapP s.pc s.csrs (fetchP s.pc).1 s.pc) := Lib.hid (by unfold madeP; rw [if_pos hf])
    rw [hf] at FT
    have hfc := fetch_c s.pc
    clear hf
    generalize (fetchP s.pc).1 = cause at *
    go_wp2_with (fail)
    refine (FT.out _).mono ?_
    rintro e zf ⟨rfl, hzf⟩
    subst hzf
    go_wp2_with (fail)
    refine (rtrap_calls rb gb base tv { s with steps := s.steps + 1 } _ M1.out iv.ok.regs iv.ok.csrs s.pc cause s.pc iv.ok.pc hfc iv.ok.pc).mono ?_
    rintro e w3 ⟨rfl, m3, u3⟩
    have M3 := Lib.hid m3
    have R3 := Lib.hid (u3.keep R1.out (by simp; omega))
    have V3 := Lib.hid (U1.out.trans u3)
    clear m3 u3 M1 R1 U1 c0
    go_wp2_with (first
      | go_skip
      | ((with_reducible refine at_st 2 ?_); refine L_store_row 38 (.tmp 2) (.tmp 37) rfl (by kernel_rfl) zz.heap.size 0 rfl (retL ⟨0, 0, 0, false, 0, 0, 0⟩) 38 R3.out (retL (pcR s.pc)).toArray rfl 7 info_ret rfl (by decide) (retL_one _) ?_))
    intro wA bA uA zA
    rw [spl_all (by rfl)] at bA
    go_wp2_with (fail)
    refine bodyPost_ret (results_row_tmp rfl _ _ zz.heap.size 38 (retL (pcR s.pc)).toArray _ _ _ rfl rfl bA Tryz.underlying38 rfl info_ret) rfl ⟨by first | rfl | (rw [EM.out]; rfl), ?_⟩
    rw [SF.out, EM.out]
    exact ⟨tv, M3.out.upd uA (by simp; omega) (by simp; omega) (fun g hg => by have := hown g hg; simp; omega), (V3.out.mono (T := rb :: gb :: tv.ownBlock.toList) (fun x hx _ => by simp at hx; simp [hx])).then uA (fun x hx hlt => by simp at hx; omega), fun g hg => .inl hg⟩
end Go.Proofs.YtggjmdgonjhioaaGreat
