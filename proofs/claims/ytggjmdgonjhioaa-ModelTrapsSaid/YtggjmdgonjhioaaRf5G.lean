/- The document's words of instructions: the walk. -/
import Derived.Test.YtggjmdgonjhioaaRf5F
import Derived.Deep.Cut
namespace Go.Proofs.Ytggjmdgonjhioaa
open Go.RowKit Go.Dio
set_option linter.unusedSimpArgs false
set_option linter.unusedVariables false

theorem fmt_pos (o : Nat) (h : o < 55) : fmtP (o + 1) ≠ 0 := by
  have key : ∀ o, o < 55 → fmtP (o + 1) ≠ 0 := by decide
  exact key o h
theorem fmt_cases (o : Nat) (h : o < 55) : fmtP (o + 1) = 85 ∨ fmtP (o + 1) = 74 ∨ fmtP (o + 1) = 66 ∨ fmtP (o + 1) = 83 ∨ fmtP (o + 1) = 82 ∨ fmtP (o + 1) = 72 ∨ fmtP (o + 1) = 73 ∨ fmtP (o + 1) = 67 ∨ fmtP (o + 1) = 78 := by
  have key : ∀ o, o < 55 → fmtP (o + 1) = 85 ∨ fmtP (o + 1) = 74 ∨ fmtP (o + 1) = 66 ∨ fmtP (o + 1) = 83 ∨ fmtP (o + 1) = 82 ∨ fmtP (o + 1) = 72 ∨ fmtP (o + 1) = 73 ∨ fmtP (o + 1) = 67 ∨ fmtP (o + 1) = 78 := by decide
  exact key o h
theorem encX_78 (w0 n r2 : Nat) : encX 78 w0 n r2 = w0 := rfl
set_option maxRecDepth 20000 in
set_option maxHeartbeats 4000000 in
theorem enc_calls (o rd r1 r2 : Nat) (imm : Int) (zz : World) (ho : o < 55) (hd : rd < 32) (h1 : r1 < 32) (h2 : r2 < 32) :
    Calls Try.prog 26 #[.agg (InstV.arr ⟨o + 1, rd, r1, r2, imm⟩)] zz fun e z' => e = .returned (.tuple #[.int .u32 ((encP ⟨o + 1, rd, r1, r2, imm⟩).1 : Int), .bool (encP ⟨o + 1, rd, r1, r2, imm⟩).2]) ∧ Upd [] zz z' := by
  have hfp := fmt_pos o ho
  have hfc := fmt_cases o ho
  have FC := Lib.hid (fun z => fmt_calls (o + 1) z (by omega))
  have d1 : decide ((rd : Int) < 0) = false := decide_eq_false (by omega)
  have d2 : decide ((31 : Int) < (rd : Int)) = false := decide_eq_false (by omega)
  have d3 : decide ((r1 : Int) < 0) = false := decide_eq_false (by omega)
  have d4 : decide ((31 : Int) < (r1 : Int)) = false := decide_eq_false (by omega)
  have d5 : decide ((r2 : Int) < 0) = false := decide_eq_false (by omega)
  have d6 : decide ((31 : Int) < (r2 : Int)) = false := decide_eq_false (by omega)
  have p1 : IntKind.u32.wrap (rd : Int) = (rd : Int) := wrap32 (by omega) (by omega)
  have p2 : IntKind.u32.wrap (r1 : Int) = (r1 : Int) := wrap32 (by omega) (by omega)
  have p3 : IntKind.u32.wrap (r2 : Int) = (r2 : Int) := wrap32 (by omega) (by omega)
  have s1 : IntKind.u32.wrap ((rd : Int) * 128) = ((rd * 128 : Nat) : Int) := ev_shl rd 128 (by omega)
  have s2 : IntKind.u32.wrap ((r1 : Int) * 32768) = ((r1 * 32768 : Nat) : Int) := ev_shl r1 32768 (by omega)
  have hc := codesL_lt o
  have q1 := or32 (nth codesL o) (rd * 128) hc (by omega)
  have hq1 := or_lt (nth codesL o) (rd * 128) hc (by omega)
  have q2 := or32 (nth codesL o ||| rd * 128) (r1 * 32768) hq1 (by omega)
  have hw0 := or_lt (nth codesL o ||| rd * 128) (r1 * 32768) hq1 (by omega)
  have w1 := wrap_u32 imm
  have hn := u32_lt imm
  have ee : encW ⟨o + 1, rd, r1, r2, imm⟩ = encX (fmtP (o + 1)) (nth codesL o ||| rd * 128 ||| r1 * 32768) (u32 imm) r2 := rfl
  have hQ := inst_eq
  obtain ⟨E, hE⟩ : ∃ E, E = encW ⟨o + 1, rd, r1, r2, imm⟩ := ⟨_, rfl⟩
  rw [← hE] at ee
  have HP : Hid (encP ⟨o + 1, rd, r1, r2, imm⟩ = if (decodeP E).op ≠ 0 ∧ decodeP E = ⟨o + 1, rd, r1, r2, imm⟩ then (E, true) else (0, false)) := Lib.hid (by rw [hE]; rfl)
  clear hE
  generalize encP ⟨o + 1, rd, r1, r2, imm⟩ = RES at HP ⊢
  generalize fmtP (o + 1) = f at *
  have CC : Hid (nth codesL o = nth codesL o) := Lib.hid rfl
  obtain ⟨c, hcc⟩ : ∃ c, c = nth codesL o := ⟨_, rfl⟩
  rw [← hcc] at hc q1 hq1 q2 hw0 ee
  have HC := Lib.hid hcc
  clear hcc CC
  generalize c ||| rd * 128 ||| r1 * 32768 = w0 at *
  generalize c ||| rd * 128 = w00 at *
  generalize rd * 128 = rd' at *
  generalize r1 * 32768 = r1' at *
  generalize u32 imm = n at *
  have EE := Lib.hid ee
  have HI := Lib.hid hQ
  have df : ((f : Int) == 0) = false := (cast_ne_b hfp).1
  have b1 : decide ((o : Int) < 55) = true := decide_eq_true (by omega)
  have b2 : decide ((0 : Int) ≤ (o : Int)) = true := decide_eq_true (by omega)
  clear ee hQ hfp
  have HA : InstV.arr ⟨o + 1, rd, r1, r2, imm⟩ = #[.int .i64 (((o + 1 : Nat)) : Int), .int .i64 (rd : Int), .int .i64 (r1 : Int), .int .i64 (r2 : Int), .int .i32 imm] := rfl
  rw [HA]
  go_enter Try.func26, Try.ntmps26
  go_wp2_with (fail)
  refine (FC.out _).mono ?_
  rintro e z1 ⟨rfl, rfl⟩
  go_upto_region 4 with (fail)
  have P1 := Lib.hid (hl1 zz (.cells (InstV.arr ⟨o + 1, rd, r1, r2, imm⟩) 65))
  have U := Lib.hid ((Upd.refl [] zz).alloc (.cells (InstV.arr ⟨o + 1, rd, r1, r2, imm⟩) 65))
  generalize hW : World.alloc zz _ = W
  have hW2 : zz.alloc (.cells (InstV.arr ⟨o + 1, rd, r1, r2, imm⟩) 65) = W := hW
  rw [hW2] at P1 U
  clear hW hW2 HA
  have n0 : ∀ x : Near [] W, x.1.cell? ⟨zz.heap.size, 0, none⟩ = some (.int .i64 (((o + 1 : Nat)) : Int)) := fun x => by rw [cells_of (x.2.keep P1.out (by simp))]; rfl
  have n1 : ∀ x : Near [] W, x.1.cell? ⟨zz.heap.size, 1, none⟩ = some (.int .i64 (rd : Int)) := fun x => by rw [cells_of (x.2.keep P1.out (by simp))]; rfl
  have n2 : ∀ x : Near [] W, x.1.cell? ⟨zz.heap.size, 2, none⟩ = some (.int .i64 (r1 : Int)) := fun x => by rw [cells_of (x.2.keep P1.out (by simp))]; rfl
  clear d1 d2 d3 d4 d5 d6 df
  refine wp_region_plan (fun z => ∃ x : Near [] W, z = x.1) [([1, 2, 3, 6, 7, 8, 9, 11, 12, 13, 14], 0), ([4], 5)] [10, 15, 16] (by kernel_rfl) (by kernel_rfl) (by kernel_rfl) (by kernel_rfl) (fun _ d _ _ _ h => by cases d <;> exact h) ⟨⟨W.drew, (Upd.refl _ _).drew⟩, rfl⟩ ?_
  refine plan_next ?_
  simp only [opsAt, List.map_cons, List.map_nil, List.getElem?_toArray, List.getElem?_cons_zero, List.getElem?_cons_succ, Option.getD_some]
  repeat (go_big_quiet_step (fail))
  refine wpQuiet_nil ?_
  refine plan_one rfl ?_
  go_wp2_with fail
  refine (codes_calls _).mono ?_
  rintro e z1 ⟨rfl, rfl⟩
  have V1 : Hid (Upd [] W (W.alloc (.cells (nums .u32 codesL) 31)).drew) := Lib.hid (((Upd.refl _ _).alloc _).drew)
  have K1 : Hid ((W.alloc (.cells (nums .u32 codesL) 31)).drew.heap[W.heap.size]? = some (.cells (nums .u32 codesL) 31 (0, 0))) := Lib.hid (hl1 _ _)
  go_wp2_with fail
  generalize hX : World.drew (World.alloc W _) = X
  have hX2 : (W.alloc (.cells (nums .u32 codesL) 31)).drew = X := hX
  rw [hX2] at V1 K1
  clear hX hX2
  refine plan_same ⟨⟨_, V1.out⟩, rfl⟩ ?_
  have UX := Lib.hid (U.out.trans V1.out)
  have PX := Lib.hid (V1.out.keep P1.out (by simp))
  clear n0 n1 n2 P1 U
  have n48 : X.cell? ⟨W.heap.size, o, none⟩ = some (.int .u32 (c : Int)) := by
    rw [cells_of K1.out, HC.out]
    exact nums_nth .u32 codesL o ho
  refine plan_next ?_
  simp only [opsAt, List.map_cons, List.map_nil, List.getElem?_toArray, List.getElem?_cons_zero, List.getElem?_cons_succ, Option.getD_some]
  repeat (go_big_quiet_step (fail))
  refine wpQuiet_nil ?_
  refine plan_one rfl ?_
  go_wp2_with fail
  refine plan_same ⟨⟨_, V1.out⟩, rfl⟩ ?_
  refine plan_last ?_
  simp only [opsAt, List.map_cons, List.map_nil, List.getElem?_toArray, List.getElem?_cons_zero, List.getElem?_cons_succ, Option.getD_some]
  repeat (go_big_quiet_step (fail))
  refine wpQuiet_nil ?_
  unfold planEnd
  clear n48 K1 V1
  have c3 : X.cell? ⟨zz.heap.size, 3, none⟩ = some (.int .i64 (r2 : Int)) := by rw [cells_of PX.out]; rfl
  have c4 : X.cell? ⟨zz.heap.size, 4, none⟩ = some (.int .i32 imm) := by rw [cells_of PX.out]; rfl
  clear p1 p2 s1 s2 q1 q2 hq1 hc b1 b2
  go_upto_block 0 with (fail)
  go_cut [5] (fun v5 wc => ∃ e : Nat, v5 = .int .u32 (e : Int) ∧ e < 2 ^ 32 ∧ Hid (e = encX f w0 n r2) ∧ Hid (wc = X))
  case first =>
    rcases hfc with rfl | rfl | rfl | rfl | rfl | rfl | rfl | rfl | rfl
    ·
      obtain ⟨a, e, f0, f1, he, hlt⟩ := enc_85 w0 n r2 hw0 hn h2
      have HE := Lib.hid he
      clear he
      go_wp2_with (fail)
      go_meet
      case rel => exact ⟨e, rfl, hlt, HE, Lib.hid rfl⟩
    ·
      obtain ⟨a, A, b, B, p, c, C, q, d, D, r, e, f0, f1, f2, f3, f4, f5, f6, f7, f8, f9, f10, f11, he, hlt⟩ := enc_74 w0 n r2 hw0 hn h2
      have HE := Lib.hid he
      clear he
      go_wp2_with (fail)
      go_meet
      case rel => exact ⟨e, rfl, hlt, HE, Lib.hid rfl⟩
    ·
      obtain ⟨a, A, b, B, p, c, C, q, d, D, r, R, s, e, f0, f1, f2, f3, f4, f5, f6, f7, f8, f9, f10, f11, f12, f13, he, hlt⟩ := enc_66 w0 n r2 hw0 hn h2
      have HE := Lib.hid he
      clear he
      go_wp2_with (fail)
      go_meet
      case rel => exact ⟨e, rfl, hlt, HE, Lib.hid rfl⟩
    ·
      obtain ⟨a, A, b, B, p, R, s, e, f0, f1, f2, f3, f4, f5, f6, f7, he, hlt⟩ := enc_83 w0 n r2 hw0 hn h2
      have HE := Lib.hid he
      clear he
      go_wp2_with (fail)
      go_meet
      case rel => exact ⟨e, rfl, hlt, HE, Lib.hid rfl⟩
    ·
      obtain ⟨R, e, f0, f1, he, hlt⟩ := enc_82 w0 n r2 hw0 hn h2
      have HE := Lib.hid he
      clear he
      go_wp2_with (fail)
      go_meet
      case rel => exact ⟨e, rfl, hlt, HE, Lib.hid rfl⟩
    ·
      obtain ⟨a, A, e, f0, f1, f2, he, hlt⟩ := enc_72 w0 n r2 hw0 hn h2
      have HE := Lib.hid he
      clear he
      go_wp2_with (fail)
      go_meet
      case rel => exact ⟨e, rfl, hlt, HE, Lib.hid rfl⟩
    ·
      obtain ⟨a, A, e, f0, f1, f2, he, hlt⟩ := enc_73 w0 n r2 hw0 hn h2
      have HE := Lib.hid he
      clear he
      go_wp2_with (fail)
      go_meet
      case rel => exact ⟨e, rfl, hlt, HE, Lib.hid rfl⟩
    ·
      obtain ⟨a, A, e, f0, f1, f2, he, hlt⟩ := enc_67 w0 n r2 hw0 hn h2
      have HE := Lib.hid he
      clear he
      go_wp2_with (fail)
      go_meet
      case rel => exact ⟨e, rfl, hlt, HE, Lib.hid rfl⟩
    · go_wp2_with (fail)
      go_meet
      case rel => exact ⟨w0, rfl, hw0, Lib.hid rfl, Lib.hid rfl⟩
  case rest =>
    obtain ⟨e, rfl, he, HE, HX⟩ := hcut
    obtain rfl : wc = X := HX.out
    have e2 : e = E := by rw [HE.out, EE.out]
    subst e2
    clear HE EE hfc w1 hn c3 c4 HC hw0 HX p3
    go_wp2_with (fail)
    refine (rdecode_calls e he _).mono ?_
    rintro e' w3 ⟨rfl, u3⟩
    have PZ := Lib.hid (u3.keep PX.out (by simp))
    have UZ := Lib.hid (UX.out.trans u3)
    clear u3 PX UX
    generalize decodeP e = D at HP ⊢
    by_cases hz : D.op = 0
    · have HR : Hid (RES = (0, false)) := Lib.hid (by rw [HP.out, if_neg (by simp [hz])])
      rw [show decide (D.op ≠ 0) = false by simp [hz]]
      clear hz HP
      go_wp2_with (first
        | go_skip
        | (refine L_store_new 65 (.tmp 7) (.tmp 164) rfl (by kernel_rfl) _ D.arr rfl rfl 5 info_inst rfl rfl (InstV.one _) ?_))
      go_ret2
      exact ⟨by rw [HR.out]; rfl, UZ.out.alloc _⟩
    · rw [show decide (D.op ≠ 0) = true by simp [hz]]
      by_cases hq : D = ⟨o + 1, rd, r1, r2, imm⟩
      · have HR : Hid (RES = (e, true)) := Lib.hid (by rw [HP.out, if_pos ⟨hz, hq⟩])
        have hI : ∀ w, (Op.equalIn 10000 65 (.agg D.arr) (.agg (InstV.arr ⟨o + 1, rd, r1, r2, imm⟩))).run Try.prog w = .ok true w := fun w => by rw [inst_eq, decide_eq_true hq]
        clear hz hq HP HI
        go_wp2_with (first
          | go_skip
          | (refine L_store_new 65 (.tmp 7) (.tmp 164) rfl (by kernel_rfl) _ D.arr rfl rfl 5 info_inst rfl rfl (InstV.one _) ?_)
          | ((with_reducible refine at_op 169 ?_); refine L_load 65 (.tmp 7) rfl (by kernel_rfl) _ _ rfl D.arr (row_range (hl1 _ _)) Try.underlying65 rfl 5 info_inst rfl ?_)
          | ((with_reducible refine at_op 170 ?_); refine L_load 65 (.tmp 1) rfl (by kernel_rfl) _ _ rfl (InstV.arr ⟨o + 1, rd, r1, r2, imm⟩) (row_range (heap_old PZ.out _)) Try.underlying65 rfl 5 info_inst rfl ?_))
        go_ret2
        exact ⟨by rw [HR.out]; rfl, UZ.out.alloc _⟩
      · have HR : Hid (RES = (0, false)) := Lib.hid (by rw [HP.out, if_neg (by simp [hq])])
        have hI : ∀ w, (Op.equalIn 10000 65 (.agg D.arr) (.agg (InstV.arr ⟨o + 1, rd, r1, r2, imm⟩))).run Try.prog w = .ok false w := fun w => by rw [inst_eq, decide_eq_false hq]
        clear hz hq HP HI
        go_wp2_with (first
          | go_skip
          | (refine L_store_new 65 (.tmp 7) (.tmp 164) rfl (by kernel_rfl) _ D.arr rfl rfl 5 info_inst rfl rfl (InstV.one _) ?_)
          | ((with_reducible refine at_op 169 ?_); refine L_load 65 (.tmp 7) rfl (by kernel_rfl) _ _ rfl D.arr (row_range (hl1 _ _)) Try.underlying65 rfl 5 info_inst rfl ?_)
          | ((with_reducible refine at_op 170 ?_); refine L_load 65 (.tmp 1) rfl (by kernel_rfl) _ _ rfl (InstV.arr ⟨o + 1, rd, r1, r2, imm⟩) (row_range (heap_old PZ.out _)) Try.underlying65 rfl 5 info_inst rfl ?_))
        go_ret2
        exact ⟨by rw [HR.out]; rfl, UZ.out.alloc _⟩
end Go.Proofs.Ytggjmdgonjhioaa
