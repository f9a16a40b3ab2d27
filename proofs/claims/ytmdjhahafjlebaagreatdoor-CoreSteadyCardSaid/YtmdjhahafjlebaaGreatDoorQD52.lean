/- Tapes: instructions. -/
import Derived.Test.YtmdjhahafjlebaaGreatDoorQD49
import Derived.Test.YtmdjhahafjlebaaGreatDoorQD04
import Derived.Deep.Cut
namespace Go.Proofs.YtmdjhahafjlebaaGreatDoor
open Go.RowKit Go.Dio
set_option linter.unusedSimpArgs false
set_option linter.unusedVariables false

def OkI (i : InstV) : Prop := 1 ≤ i.op ∧ i.op ≤ 55 ∧ i.rd < 32 ∧ i.r1 < 32 ∧ i.r2 < 32
theorem al_last {S : List Nat} {w0 w : World} (u : Upd S w0 w) (o : Obj) : (w.alloc o).heap[w.heap.size]? = some o := hl1 w o
theorem tapeI (op : Nat) (h : op < 55) : IntKind.i64.wrap (1 + (op : Int)) = ((op + 1 : Nat) : Int) := by rw [IntKind.wrap_i64]; omega
set_option maxRecDepth 20000 in
set_option maxHeartbeats 4000000 in
theorem Inst_calls (tb : Nat) (A : Option Addr) (L : List Int) (c at' : Nat) (w : World) (T : TapeAt tb A L c at' w) :
    Calls Tryz.prog 30 #[.pointer (some ⟨tb, 0, none⟩)] w fun e w' => ∃ (i : InstV) (a2 : Nat), OkI i ∧ e = .returned (.agg i.arr) ∧ TapeAt tb A L c a2 w' ∧ Upd [tb] w w' := by
  have h0 := T.tb_lt
  go_enter Tryz.func30, Tryz.ntmps30
  go_wp2_with (fail)
  have E0 := Lib.hid (hl1 w (.cells noI.arr 69))
  have X0 := Lib.hid (T.upd ((Upd.refl [] w).alloc (.cells noI.arr 69)) (fun g hg => by simp at hg))
  have V0 := Lib.hid ((Upd.refl [tb] w).alloc (.cells noI.arr 69))
  refine (Next_calls _ _ _ _ _ 55 _ X0.out (by decide) (by decide)).mono ?_
  rintro e w1 ⟨r1, a1, hr1, rfl, T1, U1⟩
  have hw1 := tapeI r1 hr1
  have E1 := Lib.hid (U1.keep E0.out (by simp; omega))
  have V1 := Lib.hid (V0.out.trans U1)
  have X1 := Lib.hid T1
  have hb3 := lt_of_block E1.out
  have F1 := Lib.hid (fun z => fmt_calls (r1 + 1) z (by omega))
  obtain ⟨op, hop⟩ : ∃ op, op = r1 + 1 := ⟨_, rfl⟩
  rw [← hop] at hw1 F1
  have hop1 : 1 ≤ op := by omega
  have hop2 : op ≤ 55 := by omega
  have HC : Hid (fmtP op = 85 ∨ fmtP op = 74 ∨ fmtP op = 66 ∨ fmtP op = 83 ∨ fmtP op = 82 ∨ fmtP op = 72 ∨ fmtP op = 73 ∨ fmtP op = 67 ∨ fmtP op = 78) := Lib.hid (by rw [hop]; exact fmt_cases r1 hr1)
  have hlin : (1 : Int) + (r1 : Int) = (op : Int) := by omega
  have hlin2 : (r1 : Int) + 1 = (op : Int) := by omega
  clear hop E0 X0 V0 T1 U1 T
  go_wp2_with (fail)
  generalize hb : w1.heap.size = b3 at *
  have R2 : Hid ((w1.alloc (.cells (InstV.arr ⟨op, 0, 0, 0, 0⟩) 69)).heap[b3]? = some (.cells (InstV.arr ⟨op, 0, 0, 0, 0⟩) 69 (0, 0))) := Lib.hid (by rw [← hb]; exact hl1 _ _)
  have V3 : Hid (Upd [tb, b3] w1 (w1.alloc (.cells (InstV.arr ⟨op, 0, 0, 0, 0⟩) 69))) := Lib.hid ((Upd.refl _ _).alloc _)
  have TX := Lib.hid (X1.out.upd ((Upd.refl [] w1).alloc (.cells (InstV.arr ⟨op, 0, 0, 0, 0⟩) 69)) (fun g hg => by simp at hg))
  go_wp2_with (fail)
  refine (Next_calls _ _ _ _ _ 32 _ TX.out (by decide) (by decide)).mono ?_
  rintro e w2 ⟨r2, a2, hr2, rfl, T2, U2⟩
  have R3 := Lib.hid (U2.keep R2.out (by simp; omega))
  have V4 := Lib.hid (V3.out.trans (U2.mono (T := [tb, b3]) (fun x hx _ => by simp at hx ⊢; omega)))
  clear R2 V3 TX U2
  have R2 := R3
  have V3 := V4
  have TX := Lib.hid T2
  clear R3 V4 T2
  go_wp2_with (fail)
  refine (Next_calls _ _ _ _ _ 32 _ TX.out (by decide) (by decide)).mono ?_
  rintro e w3 ⟨r3, a3, hr3, rfl, T3, U3⟩
  have R3 := Lib.hid (U3.keep R2.out (by simp; omega))
  have V4 := Lib.hid (V3.out.trans (U3.mono (T := [tb, b3]) (fun x hx _ => by simp at hx ⊢; omega)))
  clear R2 V3 TX U3
  have R2 := R3
  have V3 := V4
  have TX := Lib.hid T3
  clear R3 V4 T3
  go_wp2_with (fail)
  refine (Next_calls _ _ _ _ _ 32 _ TX.out (by decide) (by decide)).mono ?_
  rintro e w4 ⟨r4, a4, hr4, rfl, T4, U4⟩
  have R3 := Lib.hid (U4.keep R2.out (by simp; omega))
  have V4 := Lib.hid (V3.out.trans (U4.mono (T := [tb, b3]) (fun x hx _ => by simp at hx ⊢; omega)))
  clear R2 V3 TX U4
  have R2 := R3
  have V3 := V4
  have TX := Lib.hid T4
  clear R3 V4 T4
  go_wp2_with (fail)
  refine (Next_calls _ _ _ _ _ 4096 _ TX.out (by decide) (by decide)).mono ?_
  rintro e w5 ⟨r5, a5, hr5, rfl, T5, U5⟩
  have R3 := Lib.hid (U5.keep R2.out (by simp; omega))
  have V4 := Lib.hid (V3.out.trans (U5.mono (T := [tb, b3]) (fun x hx _ => by simp at hx ⊢; omega)))
  clear R2 V3 TX U5
  have R2 := R3
  have V3 := V4
  have TX := Lib.hid T5
  clear R3 V4 T5
  have hf0 : w5.cell? ⟨b3, 0, none⟩ = some (.int .i64 (op : Int)) := by rw [cells_of R2.out]; rfl
  go_wp2_with (fail)
  refine (F1.out _).mono ?_
  rintro e z1 ⟨rfl, rfl⟩
  clear hf0
  have hfc := HC.out
  generalize fmtP op = f at hfc ⊢
  clear F1 HC hlin hlin2 hw1
  go_upto_block 0 with (fail)
  go_cut [24] (fun v24 wc => ∃ u, u = v24 ∧ ∃ (I : InstV) (a : Nat), Hid (wc.heap[b3]? = some (.cells I.arr 69 (0, 0))) ∧ Hid (TapeAt tb A L c a wc) ∧ Hid (Upd [tb, b3] w1 wc) ∧ OkI I)
  case first =>
    rcases hfc with rfl | rfl | rfl | rfl | rfl | rfl | rfl | rfl | rfl
    ·
      go_wp2_with (fail)
      refine (Next_calls _ _ _ _ _ 1048576 _ TX.out (by decide) (by decide)).mono ?_
      rintro e w6 ⟨r6, a6, hr6, rfl, T6, U6⟩
      have R3 := Lib.hid (U6.keep R2.out (by simp; omega))
      have V4 := Lib.hid (V3.out.trans (U6.mono (T := [tb, b3]) (fun x hx _ => by simp at hx ⊢; omega)))
      clear R2 V3 TX U6
      have R2 := R3
      have V3 := V4
      have TX := Lib.hid T6
      clear R3 V4 T6
      go_wp2_with (first
        | go_skip
        | ((with_reducible refine at_st 32 ?_); refine L_store_int 3 (.tmp 32) _ rfl (by kernel_rfl) b3 1 rfl (InstV.arr ⟨op, 0, 0, 0, 0⟩).toList 69 R2.out .i64 _ rfl info_int1 (show 1 < 5 by decide) ?_))
      intro wA bA uA zA
      have R3 := Lib.hid bA
      have V4 := Lib.hid (V3.out.trans (uA.mono (T := [tb, b3]) (fun x hx _ => by simp at hx ⊢; omega)))
      have TY := Lib.hid (TX.out.upd uA (fun g hg => by simp at hg; omega))
      clear bA uA zA R2 V3 TX
      have R2 := R3
      have V3 := V4
      have TX := TY
      clear R3 V4 TY
      go_wp2_with (first
        | go_skip
        | ((with_reducible refine at_st 33 ?_); refine L_store_int 21 (.tmp 33) _ rfl (by kernel_rfl) b3 4 rfl _ 69 R2.out .i32 _ rfl info_i32 (show 4 < 5 by decide) ?_))
      intro wA bA uA zA
      have R3 := Lib.hid bA
      have V4 := Lib.hid (V3.out.trans (uA.mono (T := [tb, b3]) (fun x hx _ => by simp at hx ⊢; omega)))
      have TY := Lib.hid (TX.out.upd uA (fun g hg => by simp at hg; omega))
      clear bA uA zA R2 V3 TX
      have R2 := R3
      have V3 := V4
      have TX := TY
      clear R3 V4 TY
      go_wp2_with (fail)
      go_meet
      case rel => exact ⟨_, rfl, ⟨op, r2, 0, 0, _⟩, _, R2, TX, V3, by refine ⟨?_, ?_, ?_, ?_, ?_⟩ <;> (dsimp only; omega)⟩
    ·
      go_wp2_with (fail)
      refine (Next_calls _ _ _ _ _ 256 _ TX.out (by decide) (by decide)).mono ?_
      rintro e w6 ⟨r6, a6, hr6, rfl, T6, U6⟩
      have R3 := Lib.hid (U6.keep R2.out (by simp; omega))
      have V4 := Lib.hid (V3.out.trans (U6.mono (T := [tb, b3]) (fun x hx _ => by simp at hx ⊢; omega)))
      clear R2 V3 TX U6
      have R2 := R3
      have V3 := V4
      have TX := Lib.hid T6
      clear R3 V4 T6
      go_wp2_with (first
        | go_skip
        | ((with_reducible refine at_st 44 ?_); refine L_store_int 3 (.tmp 44) _ rfl (by kernel_rfl) b3 1 rfl (InstV.arr ⟨op, 0, 0, 0, 0⟩).toList 69 R2.out .i64 _ rfl info_int1 (show 1 < 5 by decide) ?_))
      intro wA bA uA zA
      have R3 := Lib.hid bA
      have V4 := Lib.hid (V3.out.trans (uA.mono (T := [tb, b3]) (fun x hx _ => by simp at hx ⊢; omega)))
      have TY := Lib.hid (TX.out.upd uA (fun g hg => by simp at hg; omega))
      clear bA uA zA R2 V3 TX
      have R2 := R3
      have V3 := V4
      have TX := TY
      clear R3 V4 TY
      go_wp2_with (first
        | go_skip
        | ((with_reducible refine at_st 45 ?_); refine L_store_int 21 (.tmp 45) _ rfl (by kernel_rfl) b3 4 rfl _ 69 R2.out .i32 _ rfl info_i32 (show 4 < 5 by decide) ?_))
      intro wA bA uA zA
      have R3 := Lib.hid bA
      have V4 := Lib.hid (V3.out.trans (uA.mono (T := [tb, b3]) (fun x hx _ => by simp at hx ⊢; omega)))
      have TY := Lib.hid (TX.out.upd uA (fun g hg => by simp at hg; omega))
      clear bA uA zA R2 V3 TX
      have R2 := R3
      have V3 := V4
      have TX := TY
      clear R3 V4 TY
      go_wp2_with (fail)
      go_meet
      case rel => exact ⟨_, rfl, ⟨op, r2, 0, 0, _⟩, _, R2, TX, V3, by refine ⟨?_, ?_, ?_, ?_, ?_⟩ <;> (dsimp only; omega)⟩
    · skip
      go_wp2_with (first
        | go_skip
        | ((with_reducible refine at_st 60 ?_); refine L_store_int 3 (.tmp 60) _ rfl (by kernel_rfl) b3 2 rfl (InstV.arr ⟨op, 0, 0, 0, 0⟩).toList 69 R2.out .i64 _ rfl info_int1 (show 2 < 5 by decide) ?_))
      intro wA bA uA zA
      have R3 := Lib.hid bA
      have V4 := Lib.hid (V3.out.trans (uA.mono (T := [tb, b3]) (fun x hx _ => by simp at hx ⊢; omega)))
      have TY := Lib.hid (TX.out.upd uA (fun g hg => by simp at hg; omega))
      clear bA uA zA R2 V3 TX
      have R2 := R3
      have V3 := V4
      have TX := TY
      clear R3 V4 TY
      go_wp2_with (first
        | go_skip
        | ((with_reducible refine at_st 61 ?_); refine L_store_int 3 (.tmp 61) _ rfl (by kernel_rfl) b3 3 rfl _ 69 R2.out .i64 _ rfl info_int1 (show 3 < 5 by decide) ?_))
      intro wA bA uA zA
      have R3 := Lib.hid bA
      have V4 := Lib.hid (V3.out.trans (uA.mono (T := [tb, b3]) (fun x hx _ => by simp at hx ⊢; omega)))
      have TY := Lib.hid (TX.out.upd uA (fun g hg => by simp at hg; omega))
      clear bA uA zA R2 V3 TX
      have R2 := R3
      have V3 := V4
      have TX := TY
      clear R3 V4 TY
      go_wp2_with (first
        | go_skip
        | ((with_reducible refine at_st 62 ?_); refine L_store_int 21 (.tmp 62) _ rfl (by kernel_rfl) b3 4 rfl _ 69 R2.out .i32 _ rfl info_i32 (show 4 < 5 by decide) ?_))
      intro wA bA uA zA
      have R3 := Lib.hid bA
      have V4 := Lib.hid (V3.out.trans (uA.mono (T := [tb, b3]) (fun x hx _ => by simp at hx ⊢; omega)))
      have TY := Lib.hid (TX.out.upd uA (fun g hg => by simp at hg; omega))
      clear bA uA zA R2 V3 TX
      have R2 := R3
      have V3 := V4
      have TX := TY
      clear R3 V4 TY
      go_wp2_with (fail)
      go_meet
      case rel => exact ⟨_, rfl, ⟨op, 0, r3, r4, _⟩, _, R2, TX, V3, by refine ⟨?_, ?_, ?_, ?_, ?_⟩ <;> (dsimp only; omega)⟩
    · skip
      go_wp2_with (first
        | go_skip
        | ((with_reducible refine at_st 68 ?_); refine L_store_int 3 (.tmp 68) _ rfl (by kernel_rfl) b3 2 rfl (InstV.arr ⟨op, 0, 0, 0, 0⟩).toList 69 R2.out .i64 _ rfl info_int1 (show 2 < 5 by decide) ?_))
      intro wA bA uA zA
      have R3 := Lib.hid bA
      have V4 := Lib.hid (V3.out.trans (uA.mono (T := [tb, b3]) (fun x hx _ => by simp at hx ⊢; omega)))
      have TY := Lib.hid (TX.out.upd uA (fun g hg => by simp at hg; omega))
      clear bA uA zA R2 V3 TX
      have R2 := R3
      have V3 := V4
      have TX := TY
      clear R3 V4 TY
      go_wp2_with (first
        | go_skip
        | ((with_reducible refine at_st 69 ?_); refine L_store_int 3 (.tmp 69) _ rfl (by kernel_rfl) b3 3 rfl _ 69 R2.out .i64 _ rfl info_int1 (show 3 < 5 by decide) ?_))
      intro wA bA uA zA
      have R3 := Lib.hid bA
      have V4 := Lib.hid (V3.out.trans (uA.mono (T := [tb, b3]) (fun x hx _ => by simp at hx ⊢; omega)))
      have TY := Lib.hid (TX.out.upd uA (fun g hg => by simp at hg; omega))
      clear bA uA zA R2 V3 TX
      have R2 := R3
      have V3 := V4
      have TX := TY
      clear R3 V4 TY
      go_wp2_with (first
        | go_skip
        | ((with_reducible refine at_st 70 ?_); refine L_store_int 21 (.tmp 70) _ rfl (by kernel_rfl) b3 4 rfl _ 69 R2.out .i32 _ rfl info_i32 (show 4 < 5 by decide) ?_))
      intro wA bA uA zA
      have R3 := Lib.hid bA
      have V4 := Lib.hid (V3.out.trans (uA.mono (T := [tb, b3]) (fun x hx _ => by simp at hx ⊢; omega)))
      have TY := Lib.hid (TX.out.upd uA (fun g hg => by simp at hg; omega))
      clear bA uA zA R2 V3 TX
      have R2 := R3
      have V3 := V4
      have TX := TY
      clear R3 V4 TY
      go_wp2_with (fail)
      go_meet
      case rel => exact ⟨_, rfl, ⟨op, 0, r3, r4, _⟩, _, R2, TX, V3, by refine ⟨?_, ?_, ?_, ?_, ?_⟩ <;> (dsimp only; omega)⟩
    · skip
      go_wp2_with (first
        | go_skip
        | ((with_reducible refine at_st 85 ?_); refine L_store_int 3 (.tmp 85) _ rfl (by kernel_rfl) b3 1 rfl (InstV.arr ⟨op, 0, 0, 0, 0⟩).toList 69 R2.out .i64 _ rfl info_int1 (show 1 < 5 by decide) ?_))
      intro wA bA uA zA
      have R3 := Lib.hid bA
      have V4 := Lib.hid (V3.out.trans (uA.mono (T := [tb, b3]) (fun x hx _ => by simp at hx ⊢; omega)))
      have TY := Lib.hid (TX.out.upd uA (fun g hg => by simp at hg; omega))
      clear bA uA zA R2 V3 TX
      have R2 := R3
      have V3 := V4
      have TX := TY
      clear R3 V4 TY
      go_wp2_with (first
        | go_skip
        | ((with_reducible refine at_st 86 ?_); refine L_store_int 3 (.tmp 86) _ rfl (by kernel_rfl) b3 2 rfl _ 69 R2.out .i64 _ rfl info_int1 (show 2 < 5 by decide) ?_))
      intro wA bA uA zA
      have R3 := Lib.hid bA
      have V4 := Lib.hid (V3.out.trans (uA.mono (T := [tb, b3]) (fun x hx _ => by simp at hx ⊢; omega)))
      have TY := Lib.hid (TX.out.upd uA (fun g hg => by simp at hg; omega))
      clear bA uA zA R2 V3 TX
      have R2 := R3
      have V3 := V4
      have TX := TY
      clear R3 V4 TY
      go_wp2_with (first
        | go_skip
        | ((with_reducible refine at_st 87 ?_); refine L_store_int 3 (.tmp 87) _ rfl (by kernel_rfl) b3 3 rfl _ 69 R2.out .i64 _ rfl info_int1 (show 3 < 5 by decide) ?_))
      intro wA bA uA zA
      have R3 := Lib.hid bA
      have V4 := Lib.hid (V3.out.trans (uA.mono (T := [tb, b3]) (fun x hx _ => by simp at hx ⊢; omega)))
      have TY := Lib.hid (TX.out.upd uA (fun g hg => by simp at hg; omega))
      clear bA uA zA R2 V3 TX
      have R2 := R3
      have V3 := V4
      have TX := TY
      clear R3 V4 TY
      go_wp2_with (fail)
      go_meet
      case rel => exact ⟨_, rfl, ⟨op, r2, r3, r4, 0⟩, _, R2, TX, V3, by refine ⟨?_, ?_, ?_, ?_, ?_⟩ <;> (dsimp only; omega)⟩
    · skip
      go_wp2_with (first
        | go_skip
        | ((with_reducible refine at_st 77 ?_); refine L_store_int 3 (.tmp 77) _ rfl (by kernel_rfl) b3 1 rfl (InstV.arr ⟨op, 0, 0, 0, 0⟩).toList 69 R2.out .i64 _ rfl info_int1 (show 1 < 5 by decide) ?_))
      intro wA bA uA zA
      have R3 := Lib.hid bA
      have V4 := Lib.hid (V3.out.trans (uA.mono (T := [tb, b3]) (fun x hx _ => by simp at hx ⊢; omega)))
      have TY := Lib.hid (TX.out.upd uA (fun g hg => by simp at hg; omega))
      clear bA uA zA R2 V3 TX
      have R2 := R3
      have V3 := V4
      have TX := TY
      clear R3 V4 TY
      go_wp2_with (first
        | go_skip
        | ((with_reducible refine at_st 78 ?_); refine L_store_int 3 (.tmp 78) _ rfl (by kernel_rfl) b3 2 rfl _ 69 R2.out .i64 _ rfl info_int1 (show 2 < 5 by decide) ?_))
      intro wA bA uA zA
      have R3 := Lib.hid bA
      have V4 := Lib.hid (V3.out.trans (uA.mono (T := [tb, b3]) (fun x hx _ => by simp at hx ⊢; omega)))
      have TY := Lib.hid (TX.out.upd uA (fun g hg => by simp at hg; omega))
      clear bA uA zA R2 V3 TX
      have R2 := R3
      have V3 := V4
      have TX := TY
      clear R3 V4 TY
      go_wp2_with (first
        | go_skip
        | ((with_reducible refine at_st 79 ?_); refine L_store_int 21 (.tmp 79) _ rfl (by kernel_rfl) b3 4 rfl _ 69 R2.out .i32 _ rfl info_i32 (show 4 < 5 by decide) ?_))
      intro wA bA uA zA
      have R3 := Lib.hid bA
      have V4 := Lib.hid (V3.out.trans (uA.mono (T := [tb, b3]) (fun x hx _ => by simp at hx ⊢; omega)))
      have TY := Lib.hid (TX.out.upd uA (fun g hg => by simp at hg; omega))
      clear bA uA zA R2 V3 TX
      have R2 := R3
      have V3 := V4
      have TX := TY
      clear R3 V4 TY
      go_wp2_with (fail)
      go_meet
      case rel => exact ⟨_, rfl, ⟨op, r2, r3, 0, _⟩, _, R2, TX, V3, by refine ⟨?_, ?_, ?_, ?_, ?_⟩ <;> (dsimp only; omega)⟩
    · skip
      go_wp2_with (first
        | go_skip
        | ((with_reducible refine at_st 51 ?_); refine L_store_int 3 (.tmp 51) _ rfl (by kernel_rfl) b3 1 rfl (InstV.arr ⟨op, 0, 0, 0, 0⟩).toList 69 R2.out .i64 _ rfl info_int1 (show 1 < 5 by decide) ?_))
      intro wA bA uA zA
      have R3 := Lib.hid bA
      have V4 := Lib.hid (V3.out.trans (uA.mono (T := [tb, b3]) (fun x hx _ => by simp at hx ⊢; omega)))
      have TY := Lib.hid (TX.out.upd uA (fun g hg => by simp at hg; omega))
      clear bA uA zA R2 V3 TX
      have R2 := R3
      have V3 := V4
      have TX := TY
      clear R3 V4 TY
      go_wp2_with (first
        | go_skip
        | ((with_reducible refine at_st 52 ?_); refine L_store_int 3 (.tmp 52) _ rfl (by kernel_rfl) b3 2 rfl _ 69 R2.out .i64 _ rfl info_int1 (show 2 < 5 by decide) ?_))
      intro wA bA uA zA
      have R3 := Lib.hid bA
      have V4 := Lib.hid (V3.out.trans (uA.mono (T := [tb, b3]) (fun x hx _ => by simp at hx ⊢; omega)))
      have TY := Lib.hid (TX.out.upd uA (fun g hg => by simp at hg; omega))
      clear bA uA zA R2 V3 TX
      have R2 := R3
      have V3 := V4
      have TX := TY
      clear R3 V4 TY
      go_wp2_with (first
        | go_skip
        | ((with_reducible refine at_st 53 ?_); refine L_store_int 21 (.tmp 53) _ rfl (by kernel_rfl) b3 4 rfl _ 69 R2.out .i32 _ rfl info_i32 (show 4 < 5 by decide) ?_))
      intro wA bA uA zA
      have R3 := Lib.hid bA
      have V4 := Lib.hid (V3.out.trans (uA.mono (T := [tb, b3]) (fun x hx _ => by simp at hx ⊢; omega)))
      have TY := Lib.hid (TX.out.upd uA (fun g hg => by simp at hg; omega))
      clear bA uA zA R2 V3 TX
      have R2 := R3
      have V3 := V4
      have TX := TY
      clear R3 V4 TY
      go_wp2_with (fail)
      go_meet
      case rel => exact ⟨_, rfl, ⟨op, r2, r3, 0, _⟩, _, R2, TX, V3, by refine ⟨?_, ?_, ?_, ?_, ?_⟩ <;> (dsimp only; omega)⟩
    · go_wp2_with (fail)
      have VW := V3
      have V3 := Lib.hid ((Upd.refl [tb, b3] z1).drew)
      have R3 := Lib.hid (V3.out.block b3 (lt_of_block R2.out))
      have TY := Lib.hid (TX.out.upd ((Upd.refl [] z1).drew) (fun g hg => by simp at hg))
      have R4 : Hid (z1.drew.heap[b3]? = some (.cells (InstV.arr ⟨op, 0, 0, 0, 0⟩) 69 (0, 0))) := R2
      clear R2 TX R3
      have R2 := R4
      have TX := TY
      clear R4 TY
      refine wp_region_tree (fun z => ∃ x : Near [tb, b3] z1, z = x.1) (.two [0, 1, 3, 7] 2 (.one [] 4 (.two [5] 6 (.one [] 8 (.one [9] 10 (.one [11] 12 (.done [])))) 8 (.two [9] 6 (.one [] 10 (.one [11] 12 (.done []))) 10 (.one [] 6 (.one [11] 12 (.done [])))))) 4 (.two [] 2 (.two [5] 6 (.one [] 8 (.one [9] 10 (.one [11] 12 (.done [])))) 8 (.two [9] 6 (.one [] 10 (.one [11] 12 (.done []))) 10 (.one [] 6 (.one [11] 12 (.done []))))) 8 (.two [9] 2 (.two [5] 6 (.one [] 10 (.one [11] 12 (.done []))) 10 (.one [] 6 (.one [11] 12 (.done [])))) 10 (.one [] 2 (.one [5] 6 (.one [11] 12 (.done []))))))) (by kernel_rfl) (by kernel_rfl) (by decide) (by kernel_rfl) (fun _ d _ _ _ h => by cases d <;> exact h) ⟨⟨z1.drew, V3.out⟩, rfl⟩ ?_
      generalize World.drew z1 = z2 at R2 V3 TX ⊢
      refine tree_two ?_
      simp only [opsAt, List.map_cons, List.map_nil, List.getElem?_toArray, List.getElem?_cons_zero, List.getElem?_cons_succ, Option.getD_some]
      try go_simp
      repeat (go_big_quiet_step (fail))
      refine wpQuiet_nil ?_
      refine ⟨?_, ?_⟩
      · skip
        go_wp2_with fail
        have hsb := lt_of_block R2.out
        have R3 := Lib.hid (heap_old R2.out (.cells (nums .i32 [773, 832, 833, 834, 835, 3072]) 21))
        have K := Lib.hid (al_last V3.out (.cells (nums .i32 [773, 832, 833, 834, 835, 3072]) 21))
        have V4 := Lib.hid (V3.out.alloc (.cells (nums .i32 [773, 832, 833, 834, 835, 3072]) 21))
        have TY := Lib.hid (TX.out.upd (Upd.alloc (Upd.refl [] _) (.cells (nums .i32 [773, 832, 833, 834, 835, 3072]) 21)) (fun g hg => by simp at hg))
        generalize hX : World.alloc _ (Obj.cells #[Value.int .i32 773, Value.int .i32 832, Value.int .i32 833, Value.int .i32 834, Value.int .i32 835, Value.int .i32 3072] 21) = X
        have hX2 : World.alloc _ (.cells (nums .i32 [773, 832, 833, 834, 835, 3072]) 21) = X := hX
        rw [hX2] at R3 K V4 TY
        clear hX hX2 R2 V3 TX
        have R2 := R3
        have V3 := V4
        have TX := TY
        clear R3 V4 TY
        refine tree_same ⟨⟨_, V3.out⟩, rfl⟩ ?_
        refine tree_one ?_
        simp only [opsAt, List.map_cons, List.map_nil, List.getElem?_toArray, List.getElem?_cons_zero, List.getElem?_cons_succ, Option.getD_some]
        try go_simp
        repeat (go_big_quiet_step (fail))
        refine wpQuiet_nil ?_
        go_wp2_with fail
        refine (Next_calls _ _ _ _ _ 6 _ TX.out (by decide) (by decide)).mono ?_
        rintro e w6 ⟨r6, a6, hr6, rfl, T6, U6⟩
        have R3 := Lib.hid (U6.keep R2.out (by simp; omega))
        have K3 := Lib.hid (U6.keep K.out (by simp; omega))
        have V4 := Lib.hid (V3.out.trans (U6.mono (T := [tb, b3]) (fun x hx _ => by simp at hx ⊢; omega)))
        clear R2 V3 TX U6 K
        have R2 := R3
        have K := K3
        have V3 := V4
        have TX := Lib.hid T6
        clear R3 V4 T6 K3
        have b6 : decide ((r6 : Int) < 6) = true := decide_eq_true (by omega)
        go_wp2_with fail
        refine tree_same ⟨⟨_, V3.out⟩, rfl⟩ ?_
        refine tree_two ?_
        simp only [opsAt, List.map_cons, List.map_nil, List.getElem?_toArray, List.getElem?_cons_zero, List.getElem?_cons_succ, Option.getD_some]
        try go_simp
        repeat (go_big_quiet_step (fail))
        refine wpQuiet_nil ?_
        refine ⟨?_, ?_⟩
        · skip
          obtain ⟨im, him⟩ : ∃ im, im = nth [773, 832, 833, 834, 835, 3072] r6 := ⟨_, rfl⟩
          have hc := (cells_of K.out r6).trans (nums_nth .i32 [773, 832, 833, 834, 835, 3072] r6 hr6)
          rw [← him] at hc
          clear him
          go_wp2_with fail
          clear hc
          refine tree_same ⟨⟨_, V3.out⟩, rfl⟩ ?_
          refine tree_one ?_
          simp only [opsAt, List.map_cons, List.map_nil, List.getElem?_toArray, List.getElem?_cons_zero, List.getElem?_cons_succ, Option.getD_some]
          try go_simp
          repeat (go_big_quiet_step (fail))
          refine wpQuiet_nil ?_
          try simp only [opsAt, List.map_cons, List.map_nil, List.getElem?_toArray, List.getElem?_cons_zero, List.getElem?_cons_succ, Option.getD_some]
          refine L_store_int 3 (.tmp 97) (.tmp 90) rfl (by kernel_rfl) b3 1 rfl (InstV.arr ⟨op, 0, 0, 0, 0⟩).toList 69 R2.out .i64 (r2 : Int) rfl info_int1 (show 1 < 5 by decide) ?_
          intro wA bA uA zA
          have R3 := Lib.hid bA
          have K3 := Lib.hid (uA.keep K.out (by simp; omega))
          have V4 := Lib.hid (V3.out.trans (uA.mono (T := [tb, b3]) (fun x hx _ => by simp at hx ⊢; omega)))
          have TY := Lib.hid (TX.out.upd uA (fun g hg => by simp at hg; omega))
          clear bA uA zA R2 V3 TX K
          have R2 := R3
          have K := K3
          have V3 := V4
          have TX := TY
          clear R3 V4 TY K3
          try go_wp2_with fail
          refine tree_same ⟨⟨_, V3.out⟩, rfl⟩ ?_
          refine tree_one ?_
          simp only [opsAt, List.map_cons, List.map_nil, List.getElem?_toArray, List.getElem?_cons_zero, List.getElem?_cons_succ, Option.getD_some]
          try go_simp
          repeat (go_big_quiet_step (fail))
          refine wpQuiet_nil ?_
          try simp only [opsAt, List.map_cons, List.map_nil, List.getElem?_toArray, List.getElem?_cons_zero, List.getElem?_cons_succ, Option.getD_some]
          refine L_store_int 3 (.tmp 98) (.tmp 91) rfl (by kernel_rfl) b3 2 rfl _ 69 R2.out .i64 (r3 : Int) rfl info_int1 (show 2 < 5 by decide) ?_
          intro wA bA uA zA
          have R3 := Lib.hid bA
          have K3 := Lib.hid (uA.keep K.out (by simp; omega))
          have V4 := Lib.hid (V3.out.trans (uA.mono (T := [tb, b3]) (fun x hx _ => by simp at hx ⊢; omega)))
          have TY := Lib.hid (TX.out.upd uA (fun g hg => by simp at hg; omega))
          clear bA uA zA R2 V3 TX K
          have R2 := R3
          have K := K3
          have V3 := V4
          have TX := TY
          clear R3 V4 TY K3
          try go_wp2_with fail
          refine tree_same ⟨⟨_, V3.out⟩, rfl⟩ ?_
          refine tree_one ?_
          simp only [opsAt, List.map_cons, List.map_nil, List.getElem?_toArray, List.getElem?_cons_zero, List.getElem?_cons_succ, Option.getD_some]
          try go_simp
          repeat (go_big_quiet_step (fail))
          refine wpQuiet_nil ?_
          try simp only [opsAt, List.map_cons, List.map_nil, List.getElem?_toArray, List.getElem?_cons_zero, List.getElem?_cons_succ, Option.getD_some]
          refine L_store_int 21 (.tmp 99) (.tmp 96) rfl (by kernel_rfl) b3 4 rfl _ 69 R2.out .i32 (im : Int) rfl info_i32 (show 4 < 5 by decide) ?_
          intro wA bA uA zA
          have R3 := Lib.hid bA
          have K3 := Lib.hid (uA.keep K.out (by simp; omega))
          have V4 := Lib.hid (V3.out.trans (uA.mono (T := [tb, b3]) (fun x hx _ => by simp at hx ⊢; omega)))
          have TY := Lib.hid (TX.out.upd uA (fun g hg => by simp at hg; omega))
          clear bA uA zA R2 V3 TX K
          have R2 := R3
          have K := K3
          have V3 := V4
          have TX := TY
          clear R3 V4 TY K3
          try go_wp2_with fail
          refine tree_same ⟨⟨_, V3.out⟩, rfl⟩ ?_
          refine tree_done ?_
          simp only [opsAt, List.map_cons, List.map_nil, List.getElem?_toArray, List.getElem?_cons_zero, List.getElem?_cons_succ, Option.getD_some]
          try go_simp
          repeat (go_big_quiet_step (fail))
          refine wpQuiet_nil ?_
          try go_wp2_with fail
          go_meet
          case rel => exact ⟨_, rfl, ⟨op, r2, r3, 0, (im : Int)⟩, _, R2, TX, Lib.hid (VW.out.trans V3.out), by refine ⟨?_, ?_, ?_, ?_, ?_⟩ <;> (dsimp only; omega)⟩
        · skip
          try simp only [opsAt, List.map_cons, List.map_nil, List.getElem?_toArray, List.getElem?_cons_zero, List.getElem?_cons_succ, Option.getD_some]
          refine L_store_int 3 (.tmp 97) (.tmp 90) rfl (by kernel_rfl) b3 1 rfl (InstV.arr ⟨op, 0, 0, 0, 0⟩).toList 69 R2.out .i64 (r2 : Int) rfl info_int1 (show 1 < 5 by decide) ?_
          intro wA bA uA zA
          have R3 := Lib.hid bA
          have K3 := Lib.hid (uA.keep K.out (by simp; omega))
          have V4 := Lib.hid (V3.out.trans (uA.mono (T := [tb, b3]) (fun x hx _ => by simp at hx ⊢; omega)))
          have TY := Lib.hid (TX.out.upd uA (fun g hg => by simp at hg; omega))
          clear bA uA zA R2 V3 TX K
          have R2 := R3
          have K := K3
          have V3 := V4
          have TX := TY
          clear R3 V4 TY K3
          try go_wp2_with fail
          refine tree_same ⟨⟨_, V3.out⟩, rfl⟩ ?_
          refine tree_two ?_
          simp only [opsAt, List.map_cons, List.map_nil, List.getElem?_toArray, List.getElem?_cons_zero, List.getElem?_cons_succ, Option.getD_some]
          try go_simp
          repeat (go_big_quiet_step (fail))
          refine wpQuiet_nil ?_
          refine ⟨?_, ?_⟩
          · skip
            obtain ⟨im, him⟩ : ∃ im, im = nth [773, 832, 833, 834, 835, 3072] r6 := ⟨_, rfl⟩
            have hc := (cells_of K.out r6).trans (nums_nth .i32 [773, 832, 833, 834, 835, 3072] r6 hr6)
            rw [← him] at hc
            clear him
            go_wp2_with fail
            clear hc
            refine tree_same ⟨⟨_, V3.out⟩, rfl⟩ ?_
            refine tree_one ?_
            simp only [opsAt, List.map_cons, List.map_nil, List.getElem?_toArray, List.getElem?_cons_zero, List.getElem?_cons_succ, Option.getD_some]
            try go_simp
            repeat (go_big_quiet_step (fail))
            refine wpQuiet_nil ?_
            try simp only [opsAt, List.map_cons, List.map_nil, List.getElem?_toArray, List.getElem?_cons_zero, List.getElem?_cons_succ, Option.getD_some]
            refine L_store_int 3 (.tmp 98) (.tmp 91) rfl (by kernel_rfl) b3 2 rfl _ 69 R2.out .i64 (r3 : Int) rfl info_int1 (show 2 < 5 by decide) ?_
            intro wA bA uA zA
            have R3 := Lib.hid bA
            have K3 := Lib.hid (uA.keep K.out (by simp; omega))
            have V4 := Lib.hid (V3.out.trans (uA.mono (T := [tb, b3]) (fun x hx _ => by simp at hx ⊢; omega)))
            have TY := Lib.hid (TX.out.upd uA (fun g hg => by simp at hg; omega))
            clear bA uA zA R2 V3 TX K
            have R2 := R3
            have K := K3
            have V3 := V4
            have TX := TY
            clear R3 V4 TY K3
            try go_wp2_with fail
            refine tree_same ⟨⟨_, V3.out⟩, rfl⟩ ?_
            refine tree_one ?_
            simp only [opsAt, List.map_cons, List.map_nil, List.getElem?_toArray, List.getElem?_cons_zero, List.getElem?_cons_succ, Option.getD_some]
            try go_simp
            repeat (go_big_quiet_step (fail))
            refine wpQuiet_nil ?_
            try simp only [opsAt, List.map_cons, List.map_nil, List.getElem?_toArray, List.getElem?_cons_zero, List.getElem?_cons_succ, Option.getD_some]
            refine L_store_int 21 (.tmp 99) (.tmp 96) rfl (by kernel_rfl) b3 4 rfl _ 69 R2.out .i32 (im : Int) rfl info_i32 (show 4 < 5 by decide) ?_
            intro wA bA uA zA
            have R3 := Lib.hid bA
            have K3 := Lib.hid (uA.keep K.out (by simp; omega))
            have V4 := Lib.hid (V3.out.trans (uA.mono (T := [tb, b3]) (fun x hx _ => by simp at hx ⊢; omega)))
            have TY := Lib.hid (TX.out.upd uA (fun g hg => by simp at hg; omega))
            clear bA uA zA R2 V3 TX K
            have R2 := R3
            have K := K3
            have V3 := V4
            have TX := TY
            clear R3 V4 TY K3
            try go_wp2_with fail
            refine tree_same ⟨⟨_, V3.out⟩, rfl⟩ ?_
            refine tree_done ?_
            simp only [opsAt, List.map_cons, List.map_nil, List.getElem?_toArray, List.getElem?_cons_zero, List.getElem?_cons_succ, Option.getD_some]
            try go_simp
            repeat (go_big_quiet_step (fail))
            refine wpQuiet_nil ?_
            try go_wp2_with fail
            go_meet
            case rel => exact ⟨_, rfl, ⟨op, r2, r3, 0, (im : Int)⟩, _, R2, TX, Lib.hid (VW.out.trans V3.out), by refine ⟨?_, ?_, ?_, ?_, ?_⟩ <;> (dsimp only; omega)⟩
          · skip
            try simp only [opsAt, List.map_cons, List.map_nil, List.getElem?_toArray, List.getElem?_cons_zero, List.getElem?_cons_succ, Option.getD_some]
            refine L_store_int 3 (.tmp 98) (.tmp 91) rfl (by kernel_rfl) b3 2 rfl _ 69 R2.out .i64 (r3 : Int) rfl info_int1 (show 2 < 5 by decide) ?_
            intro wA bA uA zA
            have R3 := Lib.hid bA
            have K3 := Lib.hid (uA.keep K.out (by simp; omega))
            have V4 := Lib.hid (V3.out.trans (uA.mono (T := [tb, b3]) (fun x hx _ => by simp at hx ⊢; omega)))
            have TY := Lib.hid (TX.out.upd uA (fun g hg => by simp at hg; omega))
            clear bA uA zA R2 V3 TX K
            have R2 := R3
            have K := K3
            have V3 := V4
            have TX := TY
            clear R3 V4 TY K3
            try go_wp2_with fail
            refine tree_same ⟨⟨_, V3.out⟩, rfl⟩ ?_
            refine tree_one ?_
            simp only [opsAt, List.map_cons, List.map_nil, List.getElem?_toArray, List.getElem?_cons_zero, List.getElem?_cons_succ, Option.getD_some]
            try go_simp
            repeat (go_big_quiet_step (fail))
            refine wpQuiet_nil ?_
            obtain ⟨im, him⟩ : ∃ im, im = nth [773, 832, 833, 834, 835, 3072] r6 := ⟨_, rfl⟩
            have hc := (cells_of K.out r6).trans (nums_nth .i32 [773, 832, 833, 834, 835, 3072] r6 hr6)
            rw [← him] at hc
            clear him
            go_wp2_with fail
            clear hc
            refine tree_same ⟨⟨_, V3.out⟩, rfl⟩ ?_
            refine tree_one ?_
            simp only [opsAt, List.map_cons, List.map_nil, List.getElem?_toArray, List.getElem?_cons_zero, List.getElem?_cons_succ, Option.getD_some]
            try go_simp
            repeat (go_big_quiet_step (fail))
            refine wpQuiet_nil ?_
            try simp only [opsAt, List.map_cons, List.map_nil, List.getElem?_toArray, List.getElem?_cons_zero, List.getElem?_cons_succ, Option.getD_some]
            refine L_store_int 21 (.tmp 99) (.tmp 96) rfl (by kernel_rfl) b3 4 rfl _ 69 R2.out .i32 (im : Int) rfl info_i32 (show 4 < 5 by decide) ?_
            intro wA bA uA zA
            have R3 := Lib.hid bA
            have K3 := Lib.hid (uA.keep K.out (by simp; omega))
            have V4 := Lib.hid (V3.out.trans (uA.mono (T := [tb, b3]) (fun x hx _ => by simp at hx ⊢; omega)))
            have TY := Lib.hid (TX.out.upd uA (fun g hg => by simp at hg; omega))
            clear bA uA zA R2 V3 TX K
            have R2 := R3
            have K := K3
            have V3 := V4
            have TX := TY
            clear R3 V4 TY K3
            try go_wp2_with fail
            refine tree_same ⟨⟨_, V3.out⟩, rfl⟩ ?_
            refine tree_done ?_
            simp only [opsAt, List.map_cons, List.map_nil, List.getElem?_toArray, List.getElem?_cons_zero, List.getElem?_cons_succ, Option.getD_some]
            try go_simp
            repeat (go_big_quiet_step (fail))
            refine wpQuiet_nil ?_
            try go_wp2_with fail
            go_meet
            case rel => exact ⟨_, rfl, ⟨op, r2, r3, 0, (im : Int)⟩, _, R2, TX, Lib.hid (VW.out.trans V3.out), by refine ⟨?_, ?_, ?_, ?_, ?_⟩ <;> (dsimp only; omega)⟩
      · skip
        go_wp2_with fail
        refine (Next_calls _ _ _ _ _ 6 _ TX.out (by decide) (by decide)).mono ?_
        rintro e w6 ⟨r6, a6, hr6, rfl, T6, U6⟩
        have R3 := Lib.hid (U6.keep R2.out (by simp; omega))
        have V4 := Lib.hid (V3.out.trans (U6.mono (T := [tb, b3]) (fun x hx _ => by simp at hx ⊢; omega)))
        clear R2 V3 TX U6
        have R2 := R3
        have V3 := V4
        have TX := Lib.hid T6
        clear R3 V4 T6
        have b6 : decide ((r6 : Int) < 6) = true := decide_eq_true (by omega)
        go_wp2_with fail
        refine tree_same ⟨⟨_, V3.out⟩, rfl⟩ ?_
        refine tree_two ?_
        simp only [opsAt, List.map_cons, List.map_nil, List.getElem?_toArray, List.getElem?_cons_zero, List.getElem?_cons_succ, Option.getD_some]
        try go_simp
        repeat (go_big_quiet_step (fail))
        refine wpQuiet_nil ?_
        refine ⟨?_, ?_⟩
        · skip
          go_wp2_with fail
          have hsb := lt_of_block R2.out
          have R3 := Lib.hid (heap_old R2.out (.cells (nums .i32 [773, 832, 833, 834, 835, 3072]) 21))
          have K := Lib.hid (al_last V3.out (.cells (nums .i32 [773, 832, 833, 834, 835, 3072]) 21))
          have V4 := Lib.hid (V3.out.alloc (.cells (nums .i32 [773, 832, 833, 834, 835, 3072]) 21))
          have TY := Lib.hid (TX.out.upd (Upd.alloc (Upd.refl [] _) (.cells (nums .i32 [773, 832, 833, 834, 835, 3072]) 21)) (fun g hg => by simp at hg))
          generalize hX : World.alloc _ (Obj.cells #[Value.int .i32 773, Value.int .i32 832, Value.int .i32 833, Value.int .i32 834, Value.int .i32 835, Value.int .i32 3072] 21) = X
          have hX2 : World.alloc _ (.cells (nums .i32 [773, 832, 833, 834, 835, 3072]) 21) = X := hX
          rw [hX2] at R3 K V4 TY
          clear hX hX2 R2 V3 TX
          have R2 := R3
          have V3 := V4
          have TX := TY
          clear R3 V4 TY
          refine tree_same ⟨⟨_, V3.out⟩, rfl⟩ ?_
          refine tree_two ?_
          simp only [opsAt, List.map_cons, List.map_nil, List.getElem?_toArray, List.getElem?_cons_zero, List.getElem?_cons_succ, Option.getD_some]
          try go_simp
          repeat (go_big_quiet_step (fail))
          refine wpQuiet_nil ?_
          refine ⟨?_, ?_⟩
          · skip
            obtain ⟨im, him⟩ : ∃ im, im = nth [773, 832, 833, 834, 835, 3072] r6 := ⟨_, rfl⟩
            have hc := (cells_of K.out r6).trans (nums_nth .i32 [773, 832, 833, 834, 835, 3072] r6 hr6)
            rw [← him] at hc
            clear him
            go_wp2_with fail
            clear hc
            refine tree_same ⟨⟨_, V3.out⟩, rfl⟩ ?_
            refine tree_one ?_
            simp only [opsAt, List.map_cons, List.map_nil, List.getElem?_toArray, List.getElem?_cons_zero, List.getElem?_cons_succ, Option.getD_some]
            try go_simp
            repeat (go_big_quiet_step (fail))
            refine wpQuiet_nil ?_
            try simp only [opsAt, List.map_cons, List.map_nil, List.getElem?_toArray, List.getElem?_cons_zero, List.getElem?_cons_succ, Option.getD_some]
            refine L_store_int 3 (.tmp 97) (.tmp 90) rfl (by kernel_rfl) b3 1 rfl (InstV.arr ⟨op, 0, 0, 0, 0⟩).toList 69 R2.out .i64 (r2 : Int) rfl info_int1 (show 1 < 5 by decide) ?_
            intro wA bA uA zA
            have R3 := Lib.hid bA
            have K3 := Lib.hid (uA.keep K.out (by simp; omega))
            have V4 := Lib.hid (V3.out.trans (uA.mono (T := [tb, b3]) (fun x hx _ => by simp at hx ⊢; omega)))
            have TY := Lib.hid (TX.out.upd uA (fun g hg => by simp at hg; omega))
            clear bA uA zA R2 V3 TX K
            have R2 := R3
            have K := K3
            have V3 := V4
            have TX := TY
            clear R3 V4 TY K3
            try go_wp2_with fail
            refine tree_same ⟨⟨_, V3.out⟩, rfl⟩ ?_
            refine tree_one ?_
            simp only [opsAt, List.map_cons, List.map_nil, List.getElem?_toArray, List.getElem?_cons_zero, List.getElem?_cons_succ, Option.getD_some]
            try go_simp
            repeat (go_big_quiet_step (fail))
            refine wpQuiet_nil ?_
            try simp only [opsAt, List.map_cons, List.map_nil, List.getElem?_toArray, List.getElem?_cons_zero, List.getElem?_cons_succ, Option.getD_some]
            refine L_store_int 3 (.tmp 98) (.tmp 91) rfl (by kernel_rfl) b3 2 rfl _ 69 R2.out .i64 (r3 : Int) rfl info_int1 (show 2 < 5 by decide) ?_
            intro wA bA uA zA
            have R3 := Lib.hid bA
            have K3 := Lib.hid (uA.keep K.out (by simp; omega))
            have V4 := Lib.hid (V3.out.trans (uA.mono (T := [tb, b3]) (fun x hx _ => by simp at hx ⊢; omega)))
            have TY := Lib.hid (TX.out.upd uA (fun g hg => by simp at hg; omega))
            clear bA uA zA R2 V3 TX K
            have R2 := R3
            have K := K3
            have V3 := V4
            have TX := TY
            clear R3 V4 TY K3
            try go_wp2_with fail
            refine tree_same ⟨⟨_, V3.out⟩, rfl⟩ ?_
            refine tree_one ?_
            simp only [opsAt, List.map_cons, List.map_nil, List.getElem?_toArray, List.getElem?_cons_zero, List.getElem?_cons_succ, Option.getD_some]
            try go_simp
            repeat (go_big_quiet_step (fail))
            refine wpQuiet_nil ?_
            try simp only [opsAt, List.map_cons, List.map_nil, List.getElem?_toArray, List.getElem?_cons_zero, List.getElem?_cons_succ, Option.getD_some]
            refine L_store_int 21 (.tmp 99) (.tmp 96) rfl (by kernel_rfl) b3 4 rfl _ 69 R2.out .i32 (im : Int) rfl info_i32 (show 4 < 5 by decide) ?_
            intro wA bA uA zA
            have R3 := Lib.hid bA
            have K3 := Lib.hid (uA.keep K.out (by simp; omega))
            have V4 := Lib.hid (V3.out.trans (uA.mono (T := [tb, b3]) (fun x hx _ => by simp at hx ⊢; omega)))
            have TY := Lib.hid (TX.out.upd uA (fun g hg => by simp at hg; omega))
            clear bA uA zA R2 V3 TX K
            have R2 := R3
            have K := K3
            have V3 := V4
            have TX := TY
            clear R3 V4 TY K3
            try go_wp2_with fail
            refine tree_same ⟨⟨_, V3.out⟩, rfl⟩ ?_
            refine tree_done ?_
            simp only [opsAt, List.map_cons, List.map_nil, List.getElem?_toArray, List.getElem?_cons_zero, List.getElem?_cons_succ, Option.getD_some]
            try go_simp
            repeat (go_big_quiet_step (fail))
            refine wpQuiet_nil ?_
            try go_wp2_with fail
            go_meet
            case rel => exact ⟨_, rfl, ⟨op, r2, r3, 0, (im : Int)⟩, _, R2, TX, Lib.hid (VW.out.trans V3.out), by refine ⟨?_, ?_, ?_, ?_, ?_⟩ <;> (dsimp only; omega)⟩
          · skip
            try simp only [opsAt, List.map_cons, List.map_nil, List.getElem?_toArray, List.getElem?_cons_zero, List.getElem?_cons_succ, Option.getD_some]
            refine L_store_int 3 (.tmp 97) (.tmp 90) rfl (by kernel_rfl) b3 1 rfl (InstV.arr ⟨op, 0, 0, 0, 0⟩).toList 69 R2.out .i64 (r2 : Int) rfl info_int1 (show 1 < 5 by decide) ?_
            intro wA bA uA zA
            have R3 := Lib.hid bA
            have K3 := Lib.hid (uA.keep K.out (by simp; omega))
            have V4 := Lib.hid (V3.out.trans (uA.mono (T := [tb, b3]) (fun x hx _ => by simp at hx ⊢; omega)))
            have TY := Lib.hid (TX.out.upd uA (fun g hg => by simp at hg; omega))
            clear bA uA zA R2 V3 TX K
            have R2 := R3
            have K := K3
            have V3 := V4
            have TX := TY
            clear R3 V4 TY K3
            try go_wp2_with fail
            refine tree_same ⟨⟨_, V3.out⟩, rfl⟩ ?_
            refine tree_two ?_
            simp only [opsAt, List.map_cons, List.map_nil, List.getElem?_toArray, List.getElem?_cons_zero, List.getElem?_cons_succ, Option.getD_some]
            try go_simp
            repeat (go_big_quiet_step (fail))
            refine wpQuiet_nil ?_
            refine ⟨?_, ?_⟩
            · skip
              obtain ⟨im, him⟩ : ∃ im, im = nth [773, 832, 833, 834, 835, 3072] r6 := ⟨_, rfl⟩
              have hc := (cells_of K.out r6).trans (nums_nth .i32 [773, 832, 833, 834, 835, 3072] r6 hr6)
              rw [← him] at hc
              clear him
              go_wp2_with fail
              clear hc
              refine tree_same ⟨⟨_, V3.out⟩, rfl⟩ ?_
              refine tree_one ?_
              simp only [opsAt, List.map_cons, List.map_nil, List.getElem?_toArray, List.getElem?_cons_zero, List.getElem?_cons_succ, Option.getD_some]
              try go_simp
              repeat (go_big_quiet_step (fail))
              refine wpQuiet_nil ?_
              try simp only [opsAt, List.map_cons, List.map_nil, List.getElem?_toArray, List.getElem?_cons_zero, List.getElem?_cons_succ, Option.getD_some]
              refine L_store_int 3 (.tmp 98) (.tmp 91) rfl (by kernel_rfl) b3 2 rfl _ 69 R2.out .i64 (r3 : Int) rfl info_int1 (show 2 < 5 by decide) ?_
              intro wA bA uA zA
              have R3 := Lib.hid bA
              have K3 := Lib.hid (uA.keep K.out (by simp; omega))
              have V4 := Lib.hid (V3.out.trans (uA.mono (T := [tb, b3]) (fun x hx _ => by simp at hx ⊢; omega)))
              have TY := Lib.hid (TX.out.upd uA (fun g hg => by simp at hg; omega))
              clear bA uA zA R2 V3 TX K
              have R2 := R3
              have K := K3
              have V3 := V4
              have TX := TY
              clear R3 V4 TY K3
              try go_wp2_with fail
              refine tree_same ⟨⟨_, V3.out⟩, rfl⟩ ?_
              refine tree_one ?_
              simp only [opsAt, List.map_cons, List.map_nil, List.getElem?_toArray, List.getElem?_cons_zero, List.getElem?_cons_succ, Option.getD_some]
              try go_simp
              repeat (go_big_quiet_step (fail))
              refine wpQuiet_nil ?_
              try simp only [opsAt, List.map_cons, List.map_nil, List.getElem?_toArray, List.getElem?_cons_zero, List.getElem?_cons_succ, Option.getD_some]
              refine L_store_int 21 (.tmp 99) (.tmp 96) rfl (by kernel_rfl) b3 4 rfl _ 69 R2.out .i32 (im : Int) rfl info_i32 (show 4 < 5 by decide) ?_
              intro wA bA uA zA
              have R3 := Lib.hid bA
              have K3 := Lib.hid (uA.keep K.out (by simp; omega))
              have V4 := Lib.hid (V3.out.trans (uA.mono (T := [tb, b3]) (fun x hx _ => by simp at hx ⊢; omega)))
              have TY := Lib.hid (TX.out.upd uA (fun g hg => by simp at hg; omega))
              clear bA uA zA R2 V3 TX K
              have R2 := R3
              have K := K3
              have V3 := V4
              have TX := TY
              clear R3 V4 TY K3
              try go_wp2_with fail
              refine tree_same ⟨⟨_, V3.out⟩, rfl⟩ ?_
              refine tree_done ?_
              simp only [opsAt, List.map_cons, List.map_nil, List.getElem?_toArray, List.getElem?_cons_zero, List.getElem?_cons_succ, Option.getD_some]
              try go_simp
              repeat (go_big_quiet_step (fail))
              refine wpQuiet_nil ?_
              try go_wp2_with fail
              go_meet
              case rel => exact ⟨_, rfl, ⟨op, r2, r3, 0, (im : Int)⟩, _, R2, TX, Lib.hid (VW.out.trans V3.out), by refine ⟨?_, ?_, ?_, ?_, ?_⟩ <;> (dsimp only; omega)⟩
            · skip
              try simp only [opsAt, List.map_cons, List.map_nil, List.getElem?_toArray, List.getElem?_cons_zero, List.getElem?_cons_succ, Option.getD_some]
              refine L_store_int 3 (.tmp 98) (.tmp 91) rfl (by kernel_rfl) b3 2 rfl _ 69 R2.out .i64 (r3 : Int) rfl info_int1 (show 2 < 5 by decide) ?_
              intro wA bA uA zA
              have R3 := Lib.hid bA
              have K3 := Lib.hid (uA.keep K.out (by simp; omega))
              have V4 := Lib.hid (V3.out.trans (uA.mono (T := [tb, b3]) (fun x hx _ => by simp at hx ⊢; omega)))
              have TY := Lib.hid (TX.out.upd uA (fun g hg => by simp at hg; omega))
              clear bA uA zA R2 V3 TX K
              have R2 := R3
              have K := K3
              have V3 := V4
              have TX := TY
              clear R3 V4 TY K3
              try go_wp2_with fail
              refine tree_same ⟨⟨_, V3.out⟩, rfl⟩ ?_
              refine tree_one ?_
              simp only [opsAt, List.map_cons, List.map_nil, List.getElem?_toArray, List.getElem?_cons_zero, List.getElem?_cons_succ, Option.getD_some]
              try go_simp
              repeat (go_big_quiet_step (fail))
              refine wpQuiet_nil ?_
              obtain ⟨im, him⟩ : ∃ im, im = nth [773, 832, 833, 834, 835, 3072] r6 := ⟨_, rfl⟩
              have hc := (cells_of K.out r6).trans (nums_nth .i32 [773, 832, 833, 834, 835, 3072] r6 hr6)
              rw [← him] at hc
              clear him
              go_wp2_with fail
              clear hc
              refine tree_same ⟨⟨_, V3.out⟩, rfl⟩ ?_
              refine tree_one ?_
              simp only [opsAt, List.map_cons, List.map_nil, List.getElem?_toArray, List.getElem?_cons_zero, List.getElem?_cons_succ, Option.getD_some]
              try go_simp
              repeat (go_big_quiet_step (fail))
              refine wpQuiet_nil ?_
              try simp only [opsAt, List.map_cons, List.map_nil, List.getElem?_toArray, List.getElem?_cons_zero, List.getElem?_cons_succ, Option.getD_some]
              refine L_store_int 21 (.tmp 99) (.tmp 96) rfl (by kernel_rfl) b3 4 rfl _ 69 R2.out .i32 (im : Int) rfl info_i32 (show 4 < 5 by decide) ?_
              intro wA bA uA zA
              have R3 := Lib.hid bA
              have K3 := Lib.hid (uA.keep K.out (by simp; omega))
              have V4 := Lib.hid (V3.out.trans (uA.mono (T := [tb, b3]) (fun x hx _ => by simp at hx ⊢; omega)))
              have TY := Lib.hid (TX.out.upd uA (fun g hg => by simp at hg; omega))
              clear bA uA zA R2 V3 TX K
              have R2 := R3
              have K := K3
              have V3 := V4
              have TX := TY
              clear R3 V4 TY K3
              try go_wp2_with fail
              refine tree_same ⟨⟨_, V3.out⟩, rfl⟩ ?_
              refine tree_done ?_
              simp only [opsAt, List.map_cons, List.map_nil, List.getElem?_toArray, List.getElem?_cons_zero, List.getElem?_cons_succ, Option.getD_some]
              try go_simp
              repeat (go_big_quiet_step (fail))
              refine wpQuiet_nil ?_
              try go_wp2_with fail
              go_meet
              case rel => exact ⟨_, rfl, ⟨op, r2, r3, 0, (im : Int)⟩, _, R2, TX, Lib.hid (VW.out.trans V3.out), by refine ⟨?_, ?_, ?_, ?_, ?_⟩ <;> (dsimp only; omega)⟩
        · skip
          try simp only [opsAt, List.map_cons, List.map_nil, List.getElem?_toArray, List.getElem?_cons_zero, List.getElem?_cons_succ, Option.getD_some]
          refine L_store_int 3 (.tmp 97) (.tmp 90) rfl (by kernel_rfl) b3 1 rfl (InstV.arr ⟨op, 0, 0, 0, 0⟩).toList 69 R2.out .i64 (r2 : Int) rfl info_int1 (show 1 < 5 by decide) ?_
          intro wA bA uA zA
          have R3 := Lib.hid bA
          have V4 := Lib.hid (V3.out.trans (uA.mono (T := [tb, b3]) (fun x hx _ => by simp at hx ⊢; omega)))
          have TY := Lib.hid (TX.out.upd uA (fun g hg => by simp at hg; omega))
          clear bA uA zA R2 V3 TX
          have R2 := R3
          have V3 := V4
          have TX := TY
          clear R3 V4 TY
          try go_wp2_with fail
          refine tree_same ⟨⟨_, V3.out⟩, rfl⟩ ?_
          refine tree_two ?_
          simp only [opsAt, List.map_cons, List.map_nil, List.getElem?_toArray, List.getElem?_cons_zero, List.getElem?_cons_succ, Option.getD_some]
          try go_simp
          repeat (go_big_quiet_step (fail))
          refine wpQuiet_nil ?_
          refine ⟨?_, ?_⟩
          · skip
            go_wp2_with fail
            have hsb := lt_of_block R2.out
            have R3 := Lib.hid (heap_old R2.out (.cells (nums .i32 [773, 832, 833, 834, 835, 3072]) 21))
            have K := Lib.hid (al_last V3.out (.cells (nums .i32 [773, 832, 833, 834, 835, 3072]) 21))
            have V4 := Lib.hid (V3.out.alloc (.cells (nums .i32 [773, 832, 833, 834, 835, 3072]) 21))
            have TY := Lib.hid (TX.out.upd (Upd.alloc (Upd.refl [] _) (.cells (nums .i32 [773, 832, 833, 834, 835, 3072]) 21)) (fun g hg => by simp at hg))
            generalize hX : World.alloc _ (Obj.cells #[Value.int .i32 773, Value.int .i32 832, Value.int .i32 833, Value.int .i32 834, Value.int .i32 835, Value.int .i32 3072] 21) = X
            have hX2 : World.alloc _ (.cells (nums .i32 [773, 832, 833, 834, 835, 3072]) 21) = X := hX
            rw [hX2] at R3 K V4 TY
            clear hX hX2 R2 V3 TX
            have R2 := R3
            have V3 := V4
            have TX := TY
            clear R3 V4 TY
            refine tree_same ⟨⟨_, V3.out⟩, rfl⟩ ?_
            refine tree_two ?_
            simp only [opsAt, List.map_cons, List.map_nil, List.getElem?_toArray, List.getElem?_cons_zero, List.getElem?_cons_succ, Option.getD_some]
            try go_simp
            repeat (go_big_quiet_step (fail))
            refine wpQuiet_nil ?_
            refine ⟨?_, ?_⟩
            · skip
              obtain ⟨im, him⟩ : ∃ im, im = nth [773, 832, 833, 834, 835, 3072] r6 := ⟨_, rfl⟩
              have hc := (cells_of K.out r6).trans (nums_nth .i32 [773, 832, 833, 834, 835, 3072] r6 hr6)
              rw [← him] at hc
              clear him
              go_wp2_with fail
              clear hc
              refine tree_same ⟨⟨_, V3.out⟩, rfl⟩ ?_
              refine tree_one ?_
              simp only [opsAt, List.map_cons, List.map_nil, List.getElem?_toArray, List.getElem?_cons_zero, List.getElem?_cons_succ, Option.getD_some]
              try go_simp
              repeat (go_big_quiet_step (fail))
              refine wpQuiet_nil ?_
              try simp only [opsAt, List.map_cons, List.map_nil, List.getElem?_toArray, List.getElem?_cons_zero, List.getElem?_cons_succ, Option.getD_some]
              refine L_store_int 3 (.tmp 98) (.tmp 91) rfl (by kernel_rfl) b3 2 rfl _ 69 R2.out .i64 (r3 : Int) rfl info_int1 (show 2 < 5 by decide) ?_
              intro wA bA uA zA
              have R3 := Lib.hid bA
              have K3 := Lib.hid (uA.keep K.out (by simp; omega))
              have V4 := Lib.hid (V3.out.trans (uA.mono (T := [tb, b3]) (fun x hx _ => by simp at hx ⊢; omega)))
              have TY := Lib.hid (TX.out.upd uA (fun g hg => by simp at hg; omega))
              clear bA uA zA R2 V3 TX K
              have R2 := R3
              have K := K3
              have V3 := V4
              have TX := TY
              clear R3 V4 TY K3
              try go_wp2_with fail
              refine tree_same ⟨⟨_, V3.out⟩, rfl⟩ ?_
              refine tree_one ?_
              simp only [opsAt, List.map_cons, List.map_nil, List.getElem?_toArray, List.getElem?_cons_zero, List.getElem?_cons_succ, Option.getD_some]
              try go_simp
              repeat (go_big_quiet_step (fail))
              refine wpQuiet_nil ?_
              try simp only [opsAt, List.map_cons, List.map_nil, List.getElem?_toArray, List.getElem?_cons_zero, List.getElem?_cons_succ, Option.getD_some]
              refine L_store_int 21 (.tmp 99) (.tmp 96) rfl (by kernel_rfl) b3 4 rfl _ 69 R2.out .i32 (im : Int) rfl info_i32 (show 4 < 5 by decide) ?_
              intro wA bA uA zA
              have R3 := Lib.hid bA
              have K3 := Lib.hid (uA.keep K.out (by simp; omega))
              have V4 := Lib.hid (V3.out.trans (uA.mono (T := [tb, b3]) (fun x hx _ => by simp at hx ⊢; omega)))
              have TY := Lib.hid (TX.out.upd uA (fun g hg => by simp at hg; omega))
              clear bA uA zA R2 V3 TX K
              have R2 := R3
              have K := K3
              have V3 := V4
              have TX := TY
              clear R3 V4 TY K3
              try go_wp2_with fail
              refine tree_same ⟨⟨_, V3.out⟩, rfl⟩ ?_
              refine tree_done ?_
              simp only [opsAt, List.map_cons, List.map_nil, List.getElem?_toArray, List.getElem?_cons_zero, List.getElem?_cons_succ, Option.getD_some]
              try go_simp
              repeat (go_big_quiet_step (fail))
              refine wpQuiet_nil ?_
              try go_wp2_with fail
              go_meet
              case rel => exact ⟨_, rfl, ⟨op, r2, r3, 0, (im : Int)⟩, _, R2, TX, Lib.hid (VW.out.trans V3.out), by refine ⟨?_, ?_, ?_, ?_, ?_⟩ <;> (dsimp only; omega)⟩
            · skip
              try simp only [opsAt, List.map_cons, List.map_nil, List.getElem?_toArray, List.getElem?_cons_zero, List.getElem?_cons_succ, Option.getD_some]
              refine L_store_int 3 (.tmp 98) (.tmp 91) rfl (by kernel_rfl) b3 2 rfl _ 69 R2.out .i64 (r3 : Int) rfl info_int1 (show 2 < 5 by decide) ?_
              intro wA bA uA zA
              have R3 := Lib.hid bA
              have K3 := Lib.hid (uA.keep K.out (by simp; omega))
              have V4 := Lib.hid (V3.out.trans (uA.mono (T := [tb, b3]) (fun x hx _ => by simp at hx ⊢; omega)))
              have TY := Lib.hid (TX.out.upd uA (fun g hg => by simp at hg; omega))
              clear bA uA zA R2 V3 TX K
              have R2 := R3
              have K := K3
              have V3 := V4
              have TX := TY
              clear R3 V4 TY K3
              try go_wp2_with fail
              refine tree_same ⟨⟨_, V3.out⟩, rfl⟩ ?_
              refine tree_one ?_
              simp only [opsAt, List.map_cons, List.map_nil, List.getElem?_toArray, List.getElem?_cons_zero, List.getElem?_cons_succ, Option.getD_some]
              try go_simp
              repeat (go_big_quiet_step (fail))
              refine wpQuiet_nil ?_
              obtain ⟨im, him⟩ : ∃ im, im = nth [773, 832, 833, 834, 835, 3072] r6 := ⟨_, rfl⟩
              have hc := (cells_of K.out r6).trans (nums_nth .i32 [773, 832, 833, 834, 835, 3072] r6 hr6)
              rw [← him] at hc
              clear him
              go_wp2_with fail
              clear hc
              refine tree_same ⟨⟨_, V3.out⟩, rfl⟩ ?_
              refine tree_one ?_
              simp only [opsAt, List.map_cons, List.map_nil, List.getElem?_toArray, List.getElem?_cons_zero, List.getElem?_cons_succ, Option.getD_some]
              try go_simp
              repeat (go_big_quiet_step (fail))
              refine wpQuiet_nil ?_
              try simp only [opsAt, List.map_cons, List.map_nil, List.getElem?_toArray, List.getElem?_cons_zero, List.getElem?_cons_succ, Option.getD_some]
              refine L_store_int 21 (.tmp 99) (.tmp 96) rfl (by kernel_rfl) b3 4 rfl _ 69 R2.out .i32 (im : Int) rfl info_i32 (show 4 < 5 by decide) ?_
              intro wA bA uA zA
              have R3 := Lib.hid bA
              have K3 := Lib.hid (uA.keep K.out (by simp; omega))
              have V4 := Lib.hid (V3.out.trans (uA.mono (T := [tb, b3]) (fun x hx _ => by simp at hx ⊢; omega)))
              have TY := Lib.hid (TX.out.upd uA (fun g hg => by simp at hg; omega))
              clear bA uA zA R2 V3 TX K
              have R2 := R3
              have K := K3
              have V3 := V4
              have TX := TY
              clear R3 V4 TY K3
              try go_wp2_with fail
              refine tree_same ⟨⟨_, V3.out⟩, rfl⟩ ?_
              refine tree_done ?_
              simp only [opsAt, List.map_cons, List.map_nil, List.getElem?_toArray, List.getElem?_cons_zero, List.getElem?_cons_succ, Option.getD_some]
              try go_simp
              repeat (go_big_quiet_step (fail))
              refine wpQuiet_nil ?_
              try go_wp2_with fail
              go_meet
              case rel => exact ⟨_, rfl, ⟨op, r2, r3, 0, (im : Int)⟩, _, R2, TX, Lib.hid (VW.out.trans V3.out), by refine ⟨?_, ?_, ?_, ?_, ?_⟩ <;> (dsimp only; omega)⟩
          · skip
            try simp only [opsAt, List.map_cons, List.map_nil, List.getElem?_toArray, List.getElem?_cons_zero, List.getElem?_cons_succ, Option.getD_some]
            refine L_store_int 3 (.tmp 98) (.tmp 91) rfl (by kernel_rfl) b3 2 rfl _ 69 R2.out .i64 (r3 : Int) rfl info_int1 (show 2 < 5 by decide) ?_
            intro wA bA uA zA
            have R3 := Lib.hid bA
            have V4 := Lib.hid (V3.out.trans (uA.mono (T := [tb, b3]) (fun x hx _ => by simp at hx ⊢; omega)))
            have TY := Lib.hid (TX.out.upd uA (fun g hg => by simp at hg; omega))
            clear bA uA zA R2 V3 TX
            have R2 := R3
            have V3 := V4
            have TX := TY
            clear R3 V4 TY
            try go_wp2_with fail
            refine tree_same ⟨⟨_, V3.out⟩, rfl⟩ ?_
            refine tree_one ?_
            simp only [opsAt, List.map_cons, List.map_nil, List.getElem?_toArray, List.getElem?_cons_zero, List.getElem?_cons_succ, Option.getD_some]
            try go_simp
            repeat (go_big_quiet_step (fail))
            refine wpQuiet_nil ?_
            go_wp2_with fail
            have hsb := lt_of_block R2.out
            have R3 := Lib.hid (heap_old R2.out (.cells (nums .i32 [773, 832, 833, 834, 835, 3072]) 21))
            have K := Lib.hid (al_last V3.out (.cells (nums .i32 [773, 832, 833, 834, 835, 3072]) 21))
            have V4 := Lib.hid (V3.out.alloc (.cells (nums .i32 [773, 832, 833, 834, 835, 3072]) 21))
            have TY := Lib.hid (TX.out.upd (Upd.alloc (Upd.refl [] _) (.cells (nums .i32 [773, 832, 833, 834, 835, 3072]) 21)) (fun g hg => by simp at hg))
            generalize hX : World.alloc _ (Obj.cells #[Value.int .i32 773, Value.int .i32 832, Value.int .i32 833, Value.int .i32 834, Value.int .i32 835, Value.int .i32 3072] 21) = X
            have hX2 : World.alloc _ (.cells (nums .i32 [773, 832, 833, 834, 835, 3072]) 21) = X := hX
            rw [hX2] at R3 K V4 TY
            clear hX hX2 R2 V3 TX
            have R2 := R3
            have V3 := V4
            have TX := TY
            clear R3 V4 TY
            refine tree_same ⟨⟨_, V3.out⟩, rfl⟩ ?_
            refine tree_one ?_
            simp only [opsAt, List.map_cons, List.map_nil, List.getElem?_toArray, List.getElem?_cons_zero, List.getElem?_cons_succ, Option.getD_some]
            try go_simp
            repeat (go_big_quiet_step (fail))
            refine wpQuiet_nil ?_
            obtain ⟨im, him⟩ : ∃ im, im = nth [773, 832, 833, 834, 835, 3072] r6 := ⟨_, rfl⟩
            have hc := (cells_of K.out r6).trans (nums_nth .i32 [773, 832, 833, 834, 835, 3072] r6 hr6)
            rw [← him] at hc
            clear him
            go_wp2_with fail
            clear hc
            refine tree_same ⟨⟨_, V3.out⟩, rfl⟩ ?_
            refine tree_one ?_
            simp only [opsAt, List.map_cons, List.map_nil, List.getElem?_toArray, List.getElem?_cons_zero, List.getElem?_cons_succ, Option.getD_some]
            try go_simp
            repeat (go_big_quiet_step (fail))
            refine wpQuiet_nil ?_
            try simp only [opsAt, List.map_cons, List.map_nil, List.getElem?_toArray, List.getElem?_cons_zero, List.getElem?_cons_succ, Option.getD_some]
            refine L_store_int 21 (.tmp 99) (.tmp 96) rfl (by kernel_rfl) b3 4 rfl _ 69 R2.out .i32 (im : Int) rfl info_i32 (show 4 < 5 by decide) ?_
            intro wA bA uA zA
            have R3 := Lib.hid bA
            have K3 := Lib.hid (uA.keep K.out (by simp; omega))
            have V4 := Lib.hid (V3.out.trans (uA.mono (T := [tb, b3]) (fun x hx _ => by simp at hx ⊢; omega)))
            have TY := Lib.hid (TX.out.upd uA (fun g hg => by simp at hg; omega))
            clear bA uA zA R2 V3 TX K
            have R2 := R3
            have K := K3
            have V3 := V4
            have TX := TY
            clear R3 V4 TY K3
            try go_wp2_with fail
            refine tree_same ⟨⟨_, V3.out⟩, rfl⟩ ?_
            refine tree_done ?_
            simp only [opsAt, List.map_cons, List.map_nil, List.getElem?_toArray, List.getElem?_cons_zero, List.getElem?_cons_succ, Option.getD_some]
            try go_simp
            repeat (go_big_quiet_step (fail))
            refine wpQuiet_nil ?_
            try go_wp2_with fail
            go_meet
            case rel => exact ⟨_, rfl, ⟨op, r2, r3, 0, (im : Int)⟩, _, R2, TX, Lib.hid (VW.out.trans V3.out), by refine ⟨?_, ?_, ?_, ?_, ?_⟩ <;> (dsimp only; omega)⟩
    ·
      go_wp2_with (fail)
      go_meet
      case rel => exact ⟨_, rfl, ⟨op, 0, 0, 0, 0⟩, _, R2, TX, V3, by refine ⟨?_, ?_, ?_, ?_, ?_⟩ <;> (dsimp only; omega)⟩
  case rest =>
    obtain ⟨u, rfl, I, a, R2, TX, V3, hI⟩ := hcut
    have K2 := Lib.hid (V3.out.keep E1.out (by simp; omega))
    have UC := Lib.hid (V1.out.then V3.out (fun x hx hlt => by simp at hx ⊢; omega))
    clear E1 X1
    go_wp2_with (first
      | go_skip
      | (refine L_load 69 (.tmp 3) rfl (by kernel_rfl) _ _ rfl I.arr (row_range R2.out) Tryz.underlying69 rfl 5 info_inst rfl ?_)
      | ((with_reducible refine at_st 2 ?_); refine L_store_row 69 (.tmp 2) (.tmp 100) rfl (by kernel_rfl) w.heap.size 0 rfl noI.arr.toList 69 K2.out I.arr rfl 5 info_inst rfl (show 5 ≤ 5 by decide) (InstV.one _) ?_))
    intro wZ bZ uZ zZ
    rw [spl_all (by rfl)] at bZ
    go_wp2_with (fail)
    refine bodyPost_ret (results_cell_row rfl _ _ w.heap.size 69 I.arr _ _ rfl bZ Tryz.underlying69 rfl info_inst) rfl ⟨I, a, hI, rfl, TX.out.upd uZ (fun g hg => by simp at hg; omega), UC.out.then uZ (fun x hx hlt => by simp at hx; omega)⟩
end Go.Proofs.YtmdjhahafjlebaaGreatDoor
