/- UpsetRights: the walk. -/
import Derived.Test.YtgdmmhedcklkaaaUpK
import Derived.Test.YtgdmmhedcklkaaaBits
namespace Go.Proofs.Ytgdmmhedcklkaaa
open Go.RowKit Go.Dio
set_option linter.unusedSimpArgs false
set_option linter.unusedVariables false

def cutR (u : UpV) : UpV := (bits .and .i64 u.1 63, bits .and .i64 u.2 63)
def InR (m : List UpV) : Prop := ∀ u ∈ m, (0 ≤ u.1 ∧ u.1 < 64) ∧ 0 ≤ u.2 ∧ u.2 < 64
theorem inR_cut (l : List UpV) : InR (l.map cutR) := fun u hu => by
  obtain ⟨v, _, rfl⟩ := List.mem_map.1 hu
  obtain ⟨a, ha, ea⟩ := andi63 v.1
  obtain ⟨b, hb, eb⟩ := andi63 v.2
  simp only [cutR, ea, eb]
  omega
theorem rightE_srt (m : List UpV) (n k : Int) : rightE (srt m) n k = rightE m n k := by
  unfold rightE
  rw [srt_len]
  have : (srt m).any (badU n k) = m.any (badU n k) := by
    rw [Bool.eq_iff_iff, List.any_eq_true, List.any_eq_true]
    constructor
    · rintro ⟨x, hx, h⟩; exact ⟨x, (srt_perm m).mem_iff.1 hx, h⟩
    · rintro ⟨x, hx, h⟩; exact ⟨x, (srt_perm m).mem_iff.2 hx, h⟩
  rw [this]
theorem rightE_all {m : List UpV} (hl : m.length ≤ 64) {n k : Int} (h : ∀ u ∈ m, badU n k u = false) : rightE m n k = 0 := by
  unfold rightE
  rw [if_neg (by omega), if_neg]
  rw [Bool.not_eq_true, List.any_eq_false]
  exact fun u hu => by rw [h u hu]; decide
theorem badU_no {n k : Int} {u : UpV} : badU n k u = false ↔ 0 ≤ u.1 ∧ u.1 < k ∧ 0 ≤ u.2 ∧ u.2 < n := by
  unfold badU
  simp only [Bool.or_eq_false_iff, decide_eq_false_iff_not]
  omega
theorem rightE_64 {m : List UpV} (hl : m.length ≤ 64) (h : InR m) : rightE m 64 64 = 0 := rightE_all hl fun u hu => by
  have := h u hu
  rw [badU_no]; omega
theorem rightE_zero {m : List UpV} (hl : m.length ≤ 64) {n k : Int} (h : rightE m n k = 0) : ∀ u ∈ m, badU n k u = false := by
  unfold rightE at h
  rw [if_neg (by omega)] at h
  intro u hu
  cases hb : badU n k u with
  | false => rfl
  | true => rw [if_pos (List.any_eq_true.2 ⟨u, hu, hb⟩)] at h; omega
theorem rightE_more {m : List UpV} (hl : m.length ≤ 64) {n k : Int} (h : rightE m n k = 0) : rightE m (n + 1) (k + 1) = 0 := rightE_all hl fun u hu => by
  have := badU_no.1 (rightE_zero hl h u hu)
  rw [badU_no]; omega
set_option maxRecDepth 20000 in
set_option maxHeartbeats 4000000 in
theorem rights22_walk (A : Option Addr) (l : List UpV) (c : Nat) (bt bu : Int) (w : World) (h : UpsAt w A l) (hlc : l.length ≤ c) (hc : c ≤ 9223372036854775807) :
    Calls Try.prog 6 #[.slice A l.length c, .int .i64 bt, .int .i64 bu] w fun e w' => e = .returned (.bool true) ∧ Upd [] w w' := by
  have H := Lib.hid h
  clear h
  generalize hL : l.length = L at hlc ⊢
  have HL := Lib.hid hL
  clear hL
  obtain ⟨n0, hn0, en⟩ := andi63 bt
  obtain ⟨m0, hm0, em⟩ := andi63 bu
  have e1 : IntKind.i64.wrap (1 + (n0 : Int)) = ((n0 + 1 : Nat) : Int) := by rw [IntKind.wrap_i64]; omega
  have e2 : IntKind.i64.wrap (1 + (m0 : Int)) = ((m0 + 1 : Nat) : Int) := by rw [IntKind.wrap_i64]; omega
  go_enter Try.func6, Try.ntmps6
  go_wp2_with (fail)
  go_loopg [9, 10] L (fun g v9 v10 wl => ∃ k : Nat, ∃ u9 : Value, u9 = v9 ∧ v10 = .int .i64 (k : Int) ∧ k ≤ L ∧ k ≤ 40 ∧ g = L - k ∧ Hid (wl.ownsRow w.heap.size 37 2 u9 k (upVals ((l.take k).map cutR))) ∧ Hid (Upd [] w wl))
  case atStart => exact ⟨0, _, rfl, rfl, by omega, by omega, rfl, Lib.hid (World.ownsRow_nil _ _ _ _), Lib.hid (Upd.refl _ _)⟩
  case round =>
    obtain ⟨k, u9, rfl, rfl, hk, hk40, hg, HO, U⟩ := hrel
    by_cases hlt : k < L ∧ k < 40
    · have dk : decide ((k : Int) < (L : Int)) = true := decide_eq_true (by omega)
      have dk2 : decide ((k : Int) < 40) = true := decide_eq_true (by omega)
      have hkl : k < l.length := by rw [HL.out]; omega
      obtain ⟨b, o, rfl, hb0, hc0⟩ := H.out (by omega)
      obtain ⟨S, hS1, hS2⟩ : ∃ S : List Nat, (∀ g ∈ S, w.heap.size ≤ g) ∧ ∀ g, u9.ownBlock = some g → g ∈ S := ⟨u9.ownBlock.toList, fun g hg => (HO.out.lt g (by simpa using hg)).1, fun g hg => by simp [hg]⟩
      have HS1 := Lib.hid hS1
      have HS2 := Lib.hid hS2
      have hbS : b ∉ S := fun h => by have := hS1 b h; omega
      obtain ⟨_, _, hAA, hb, hc2⟩ := (H.out.of_upd U.out) (by omega)
      cases hAA
      clear hS1 hS2 hc0
      obtain ⟨c1, c2⟩ := hc2 k hkl
      have hmp : (l.take (k + 1)).map cutR = (l.take k).map cutR ++ [cutR l[k]] := by
        rw [List.take_succ_eq_append_getElem hkl, List.map_append]; rfl
      have hlm : ((l.take k).map cutR).length = k := by rw [List.length_map, List.length_take]; omega
      generalize l[k] = x at c1 c2 hmp
      obtain ⟨x1, x2⟩ := x
      simp only at c1 c2
      have n1 : ∀ z : Near S wr, z.1.cell? ⟨b, o + k * 2, none⟩ = some (.int .i64 x1) := fun z => by rw [← c1]; exact World.cell?_of_block (z.2.block b hb hbS)
      have n2 : ∀ z : Near S wr, z.1.cell? ⟨b, o + k * 2 + 1, none⟩ = some (.int .i64 x2) := fun z => by rw [← c2]; exact World.cell?_of_block (z.2.block b hb hbS)
      have HMP := Lib.hid hmp
      clear hmp hc2 c1 c2
      generalize (l.take k).map cutR = a at HO HMP hlm
      have hb1 := U.out.size
      go_wp2_with (fail)
      refine wp_region_plan (fun z => ∃ x : Near S wr, z = x.1) [([0, 1, 2, 3, 4, 5, 6, 7, 8, 9, 10, 11, 12, 13], 14), ([], 15)] [16] (by kernel_rfl) (by kernel_rfl) (by kernel_rfl) (by kernel_rfl) (fun _ d _ _ _ h => by cases d <;> exact h) ⟨⟨(wr).drew, (Upd.refl _ _).drew⟩, rfl⟩ ?_
      refine plan_next ?_
      simp only [opsAt, List.map_cons, List.map_nil, List.getElem?_toArray, List.getElem?_cons_zero, List.getElem?_cons_succ, Option.getD_some]
      repeat (go_big_quiet_step (fail))
      refine wpQuiet_nil ?_
      refine plan_one rfl ?_
      go_wp2_with fail
      generalize hW : World.drew (World.alloc wr _) = W1
      have u1 : Upd S wr W1 := by rw [← hW]; exact ((Upd.refl _ _).alloc _).drew
      have z1 : W1.heap[wr.heap.size]? = some (.cells (upVals [cutR (x1, x2)]).toArray 37 (0, 0)) := by rw [← hW]; exact Go.heap_alloc_last wr _
      have o1 : W1.ownsRow w.heap.size 37 2 u9 k (upVals a) := by rw [← hW]; exact HO.out.alloc _
      have U1 : Hid (Upd [] w W1) := Lib.hid (U.out.then u1 (fun g hg hlt => by have := HS1.out g hg; omega))
      clear hW
      refine plan_same ⟨⟨_, u1⟩, rfl⟩ ?_
      refine plan_next ?_
      simp only [opsAt, List.map_cons, List.map_nil, List.getElem?_toArray, List.getElem?_cons_zero, List.getElem?_cons_succ, Option.getD_some]
      repeat (go_big_quiet_step (fail))
      refine wpQuiet_nil ?_
      refine plan_one rfl ?_
      refine L_append _ (.tmp 28) (.tmp 42) 35 rfl (by kernel_rfl) w.heap.size 37 _ 2 16 Try.underlying35 info_up rfl (by omega) u9 k (upVals a) rfl o1 (some ⟨wr.heap.size, 0, none⟩) 1 1 (upVals [cutR (x1, x2)]) rfl rfl (fun _ => ⟨_, 0, rfl, row_range z1⟩) (upVals_one _) (by simp only [maxLen]; omega) (by omega) U1.out.size ?_
      intro v' w' own g9 at9
      have u2 : Upd S wr w' := u1.grown g9 (fun g hg _ => HS2.out g hg)
      have U2 : Hid (Upd [] w w') := Lib.hid (U.out.then u2 (fun g hg hlt => by have := HS1.out g hg; omega))
      have OWN : Hid (w'.ownsRow w.heap.size 37 2 v' (k + 1) (upVals ((l.take (k + 1)).map cutR))) := Lib.hid (by rw [HMP.out, upVals_append]; exact own)
      clear own g9 at9 o1 z1
      go_wp2_with fail
      refine plan_same ⟨⟨_, u2⟩, rfl⟩ ?_
      refine plan_last ?_
      simp only [opsAt, List.map_cons, List.map_nil, List.getElem?_toArray, List.getElem?_cons_zero, List.getElem?_cons_succ, Option.getD_some]
      go_simp
      repeat (go_big_quiet_step (fail))
      refine wpQuiet_nil ?_
      unfold planEnd
      go_wp2_with fail
      go_roundg (L - (k + 1))
      case measure => omega
      case rel => exact ⟨k + 1, v', rfl, by go_num, by omega, by omega, rfl, OWN, U2⟩
    · have hlm : ((l.take k).map cutR).length = k := by rw [List.length_map, List.length_take, HL.out]; omega
      have hin := inR_cut (l.take k)
      obtain ⟨B, cap, rfl, hn9, hcp, hc9, hu, _, _⟩ := ups_of_own HO.out
      have HU := Lib.hid hu
      generalize (l.take k).map cutR = a at HU hlm hin
      have HIN := Lib.hid hin
      have HLM := Lib.hid hlm
      have hl64 : a.length ≤ 64 := by omega
      rw [hlm]
      clear hu hn9 HO H hcp hin hlm
      have hsr := rightE_srt a ((n0 + 1 : Nat) : Int) ((m0 + 1 : Nat) : Int)
      have hr64 := rightE_64 hl64 HIN.out
      have hrm := rightE_more (n := ((n0 + 1 : Nat) : Int)) (k := ((m0 + 1 : Nat) : Int)) hl64
      have HR64 := Lib.hid hr64
      have HRM := Lib.hid hrm
      have RIGHT := Lib.hid (fun (wz : World) (u : Upd [] wr wz) (n k : Int) => Right_calls B a cap n k wz (HU.out.of_upd u) (by omega))
      have SORT := Lib.hid (fun (wz : World) (u : Upd [] wr wz) => Sort_calls B a cap wz (HU.out.of_upd u) (by omega))
      have dk : decide ((k : Int) < (L : Int)) = decide (k < L) := by simp
      rw [HLM.out] at RIGHT SORT
      clear hl64 HU hsr hr64 hrm
      rcases (by omega : ¬ k < L ∨ (k < L ∧ ¬ k < 40)) with q | ⟨q, q2⟩
      · have d1 : decide ((k : Int) < (L : Int)) = false := decide_eq_false (by omega)
        clear dk
        go_wp2_with fail
        refine (RIGHT.out wr (Upd.refl _ _) ((n0 : Int) + 1) ((m0 : Int) + 1)).mono ?_
        rintro e w1 ⟨rfl, u1⟩
        generalize hE : rightE a ((n0 : Int) + 1) ((m0 : Int) + 1) = E
        have HE := Lib.hid hE
        have V1 := Lib.hid u1
        clear u1 hE
        go_wp2_with fail
        refine (SORT.out w1 V1.out).mono ?_
        rintro e w2 ⟨B2, cap2, rfl, u2, h5, h6, h7⟩
        have V2 := Lib.hid (V1.out.trans u2)
        have H7 := Lib.hid h7
        clear u2 h7
        go_wp2_with fail
        have RS := Right_calls B2 (srt a) cap2 ((n0 : Int) + 1) ((m0 : Int) + 1) w2 H7.out (by rw [srt_len, HLM.out]; omega)
        rw [srt_len, HLM.out, rightE_srt, HE.out] at RS
        refine RS.mono ?_
        rintro e w3 ⟨rfl, u3⟩
        have V3 := Lib.hid (V2.out.trans u3)
        clear u3 RS H7
        go_wp2_with fail
        refine (RIGHT.out w3 V3.out 64 64).mono ?_
        rintro e w4 ⟨rfl, u4⟩
        rw [HR64.out]
        have V4 := Lib.hid (V3.out.trans u4)
        clear u4
        by_cases hz : E = 0
        · have hm := HRM.out (by rw [← hz, ← HE.out]; rfl)
          have HM := Lib.hid hm
          subst hz
          clear hm
          go_wp2_with fail
          have RR := RIGHT.out w4 V4.out ((n0 : Int) + 1 + 1) ((m0 : Int) + 1 + 1)
          have HM2 : rightE a ((n0 : Int) + 1 + 1) ((m0 : Int) + 1 + 1) = 0 := HM.out
          rw [HM2] at RR
          refine RR.mono ?_
          rintro e w5 ⟨rfl, u5⟩
          have V5 := Lib.hid (V4.out.trans u5)
          clear u5 RR HM2
          go_wp2_with fail
          refine (known_calls22 w5).mono ?_
          rintro e w6 ⟨rfl, u6⟩
          go_wp2_with fail
          go_ret
          exact ⟨rfl, U.out.trans (V5.out.trans u6)⟩
        · have dz : decide (E = 0) = false := decide_eq_false hz
          have dz2 : (E == 0) = false := by rw [← Bool.not_eq_true, beq_iff_eq]; exact hz
          have dz3 : (E != 0) = true := by simp [bne, dz2]
          go_wp2_with fail
          refine (known_calls22 w4).mono ?_
          rintro e w6 ⟨rfl, u6⟩
          go_wp2_with fail
          go_ret
          exact ⟨rfl, U.out.trans (V4.out.trans u6)⟩
      · have d1 : decide ((k : Int) < (L : Int)) = true := decide_eq_true (by omega)
        have d2 : decide ((k : Int) < 40) = false := decide_eq_false (by omega)
        clear dk
        go_wp2_with fail
        refine (RIGHT.out wr (Upd.refl _ _) ((n0 : Int) + 1) ((m0 : Int) + 1)).mono ?_
        rintro e w1 ⟨rfl, u1⟩
        generalize hE : rightE a ((n0 : Int) + 1) ((m0 : Int) + 1) = E
        have HE := Lib.hid hE
        have V1 := Lib.hid u1
        clear u1 hE
        go_wp2_with fail
        refine (SORT.out w1 V1.out).mono ?_
        rintro e w2 ⟨B2, cap2, rfl, u2, h5, h6, h7⟩
        have V2 := Lib.hid (V1.out.trans u2)
        have H7 := Lib.hid h7
        clear u2 h7
        go_wp2_with fail
        have RS := Right_calls B2 (srt a) cap2 ((n0 : Int) + 1) ((m0 : Int) + 1) w2 H7.out (by rw [srt_len, HLM.out]; omega)
        rw [srt_len, HLM.out, rightE_srt, HE.out] at RS
        refine RS.mono ?_
        rintro e w3 ⟨rfl, u3⟩
        have V3 := Lib.hid (V2.out.trans u3)
        clear u3 RS H7
        go_wp2_with fail
        refine (RIGHT.out w3 V3.out 64 64).mono ?_
        rintro e w4 ⟨rfl, u4⟩
        rw [HR64.out]
        have V4 := Lib.hid (V3.out.trans u4)
        clear u4
        by_cases hz : E = 0
        · have hm := HRM.out (by rw [← hz, ← HE.out]; rfl)
          have HM := Lib.hid hm
          subst hz
          clear hm
          go_wp2_with fail
          have RR := RIGHT.out w4 V4.out ((n0 : Int) + 1 + 1) ((m0 : Int) + 1 + 1)
          have HM2 : rightE a ((n0 : Int) + 1 + 1) ((m0 : Int) + 1 + 1) = 0 := HM.out
          rw [HM2] at RR
          refine RR.mono ?_
          rintro e w5 ⟨rfl, u5⟩
          have V5 := Lib.hid (V4.out.trans u5)
          clear u5 RR HM2
          go_wp2_with fail
          refine (known_calls22 w5).mono ?_
          rintro e w6 ⟨rfl, u6⟩
          go_wp2_with fail
          go_ret
          exact ⟨rfl, U.out.trans (V5.out.trans u6)⟩
        · have dz : decide (E = 0) = false := decide_eq_false hz
          have dz2 : (E == 0) = false := by rw [← Bool.not_eq_true, beq_iff_eq]; exact hz
          have dz3 : (E != 0) = true := by simp [bne, dz2]
          go_wp2_with fail
          refine (known_calls22 w4).mono ?_
          rintro e w6 ⟨rfl, u6⟩
          go_wp2_with fail
          go_ret
          exact ⟨rfl, U.out.trans (V4.out.trans u6)⟩
end Go.Proofs.Ytgdmmhedcklkaaa
