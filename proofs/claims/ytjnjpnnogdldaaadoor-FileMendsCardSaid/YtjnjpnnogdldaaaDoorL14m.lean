/- Law 14: FileMends. -/
import Derived.Test.YtjnjpnnogdldaaaDoorL14k
import Derived.Test.YtjnjpnnogdldaaaDoorWd
import Derived.Test.YtjnjpnnogdldaaaDoorInts
import Derived.Deep.LoopGhost
namespace Go.Proofs.YtjnjpnnogdldaaaDoor
open Go.RowKit Go.Dio
set_option linter.unusedSimpArgs false
set_option linter.unusedVariables false

theorem nth_rep (n j : Nat) : nth (List.replicate n 0) j = 0 := by
  unfold nth
  rw [List.getD, List.getElem?_replicate]
  split <;> rfl
theorem nth_out (l : List Nat) (i : Nat) (h : l.length ≤ i) : nth l i = 0 := by simp [nth, h]
/-- The words are code words of these numbers, with one bit turned or none. -/
def Held (l : List Nat) (n : Nat → Nat) (o : Nat → Option Nat) : Prop := l.length = 31 ∧ ∀ j, j < 31 → nth l j = wd (n j) (o j)
theorem Held.set {l : List Nat} {n : Nat → Nat} {o : Nat → Option Nat} (h : Held l n o) {k v : Nat} (hk : k < 31) {n' : Nat → Nat} {o' : Nat → Option Nat} (hv : v = wd (n' k) (o' k)) (hs : ∀ j, j < 31 → j ≠ k → n' j = n j ∧ o' j = o j) : Held (l.set k v) n' o' :=
  ⟨by simpa using h.1, fun j hj => by
    by_cases e : j = k
    · subst e; rw [nth_set_eq (by rw [h.1]; exact hk)]; exact hv
    · rw [nth_set_ne (fun h => e h.symm), h.2 j hj, (hs j hj e).1, (hs j hj e).2]⟩
theorem held_all {l : List Nat} {n : Nat → Nat} {o : Nat → Option Nat} (h : Held l n o) (hn : ∀ j, n j < 2 ^ 32) (ho : ∀ j m, o j = some m → m < 39) {v : List Nat} (lv : v.length = 32) (v0 : nth v 0 = 0) (hv : ∀ j, j < 31 → nth v (j + 1) = n j) : allB l = true ∧ v = allV l := by
  refine ⟨allB_of h.1 fun j hj => ?_, allV_of h.1 lv v0 fun j hj => ?_⟩
  · rw [h.2 j hj, dec_wd (hn j) (ho j)]; simp only; split <;> omega
  · rw [hv j hj, h.2 j hj, dec_wd (hn j) (ho j)]

theorem getF_le' (l : List Nat) (i : Int) : getF l i ≤ 1 := by unfold getF; split <;> omega
set_option maxRecDepth 20000 in
set_option maxHeartbeats 4000000 in
theorem mends14_walk (A A2 : Option Addr) (ns : List Nat) (zs : List Int) (c c2 : Nat) (w : World) (hA : NumsAt w .u32 A ns) (hA2 : IntsAt w A2 zs) (hs : ∀ x ∈ ns, x < 2 ^ 32) (hl : ns.length ≤ 9223372036854775807) (hl2 : zs.length ≤ 9223372036854775807) (hT : Tz w) :
    Calls Tryd.prog 13 #[.slice A ns.length c, .slice A2 zs.length c2] w fun e w' => e = .returned (.bool true) ∧ Below w.heap.size w w' := by
  have N1 := Lib.hid (E_fnew w hT)
  have h0 : Hid (Held (List.replicate 31 0) (fun _ => 0) (fun _ => none)) := Lib.hid ⟨rfl, fun j hj => by rw [wd_zero, nth_rep]⟩
  generalize List.replicate 31 0 = l0 at N1 h0
  have HA := Lib.hid hA
  have HA2 := Lib.hid hA2
  have HS := Lib.hid fun i => nth_lt hs (by decide) i
  have HT := Lib.hid hT
  have hu : ∀ As w', Env w As w' → Below w.heap.size w w' := fun _ _ h => h.below
  have HU := Lib.hid hu
  have K := Lib.hid fun w' (h : Tz w') => known14_calls w' h
  clear hA hA2 hs hu hT
  obtain ⟨N, hN⟩ : ∃ N, N = ns.length := ⟨_, rfl⟩
  obtain ⟨M, hM⟩ : ∃ M, M = zs.length := ⟨_, rfl⟩
  rw [← hN] at hl ⊢
  rw [← hM] at hl2 ⊢
  have HN := Lib.hid hN
  have HM := Lib.hid hM
  clear hN hM
  -- which bit of each word is turned
  obtain ⟨bt, hbt⟩ : ∃ bt : Nat → Nat, ∀ j, bt j < 39 ∧ ∃ a : Nat, a < 64 ∧ bits .and .i64 (nthZ zs j) 63 = (a : Int) ∧ bt j = a % 39 :=
    ⟨fun j => (andi63 (nthZ zs j)).choose % 39, fun j => ⟨Nat.mod_lt _ (by decide), _, (andi63 (nthZ zs j)).choose_spec.1, (andi63 (nthZ zs j)).choose_spec.2, rfl⟩⟩
  obtain ⟨g, hg⟩ : ∃ g : Nat → Option Nat, g = fun j => if j < M then some (bt j) else none := ⟨_, rfl⟩
  have HBT := Lib.hid hbt
  have HG := Lib.hid hg
  have HGm : Hid (∀ j m, g j = some m → m < 39) := Lib.hid fun j m h => by
    rw [hg] at h
    simp only at h
    split at h
    · cases h; exact (hbt j).1
    · cases h
  clear hbt hg
  generalize w.heap.size + 2 = fb at N1
  generalize w.heap.size + 1 = b at N1
  generalize w.heap.size = d at N1 HU ⊢
  go_enter Tryd.func13, Tryd.ntmps13
  go_wp2_with (fail)
  refine N1.out.mono ?_
  rintro e w1 ⟨rfl, H⟩
  go_wp2_with (fail)
  generalize hq : w1.heap.size = q
  have HQ := Lib.hid hq
  clear hq
  go_loopg [7] 31 (fun k v7 wl => ∃ (i : Nat) (l v : List Nat), v7 = .int .i64 (i : Int) ∧ i ≤ 31 ∧ k = 31 - i ∧ Hid (Held l (fun j => if j < i then nth ns j else 0) (fun j => if j < i then g j else none)) ∧ Hid (v.length = 32 ∧ nth v 0 = 0 ∧ ∀ j, j < 31 → nth v (j + 1) = if j < i then nth ns j else 0) ∧ Hid (Env w [blk q (nums .u32 v).toList 57, fileA fb b d l 0 0] wl))
  case atStart => exact ⟨0, l0, zeros 32, rfl, by omega, rfl, Lib.hid (by simpa using h0.out), Lib.hid ⟨rfl, rfl, fun j hj => by rw [zeros, nth_rep, if_neg (by omega)]⟩, Lib.hid (by rw [← HQ.out]; exact H.add ((Upd.refl _ _).alloc _) (blk w1.heap.size (nums .u32 (zeros 32)).toList 57) (Go.heap_alloc_last w1 _) (by simp [blk]) (fun x hx => by simp [blk] at hx; subst hx; exact ⟨Nat.le_refl _, by simp⟩))⟩
  case round =>
    clear H N1 h0
    obtain ⟨i, l, v, rfl, hi, hk, HL, HV, H⟩ := hrel
    rcases Nat.lt_or_ge i 31 with h31 | h31
    · rcases Nat.lt_or_ge i N with hiN | hiN
      · obtain ⟨ba, oa, rfl, hba, hca⟩ := HA.out (by rw [← HN.out]; omega)
        have hn := HS.out i
        have cw := hca i (by rw [← HN.out]; omega)
        have CN := Lib.hid fun wl (u : Upd [] w wl) => (show wl.cell? ⟨ba, oa + i, none⟩ = some (.int .u32 ((nth ns i : Nat) : Int)) by rw [← cw]; exact World.cell?_of_block (w := w) (u.block ba hba (by simp)))
        have HL1 := Lib.hid (HL.out.set (k := i) h31 (v := enc (nth ns i)) (n' := fun j => if j < i + 1 then nth ns j else 0) (o' := fun j => if j < i then g j else none) (by simp [wd]) (fun j hj hne => ⟨by split <;> split <;> first | rfl | omega, rfl⟩))
        have HV1 := Lib.hid (show (v.set (i + 1) (nth ns i)).length = 32 ∧ nth (v.set (i + 1) (nth ns i)) 0 = 0 ∧ ∀ j, j < 31 → nth (v.set (i + 1) (nth ns i)) (j + 1) = if j < i + 1 then nth ns j else 0 from ⟨by simpa using HV.out.1, by rw [nth_set_ne (by omega)]; exact HV.out.2.1, fun j hj => by
          by_cases e : j = i
          · subst e; rw [nth_set_eq (by rw [HV.out.1]; omega), if_pos (by omega)]
          · rw [nth_set_ne (by omega), HV.out.2.2 j hj]; split <;> split <;> first | rfl | omega⟩)
        have c1 : wr.cell? ⟨q, i + 1, none⟩ = some (.int .u32 ((nth v (i + 1) : Nat) : Int)) := by
          rw [cells_of (H.out.ok 0 _ rfl) (i + 1)]
          have := nums_nth .u32 v (i + 1) (by rw [HV.out.1]; omega)
          simpa using this
        have f1 : wr.frozen? ⟨q, i + 1, none⟩ = false := free_of (H.out.ok 0 _ rfl) (i + 1)
        have cn := CN.out wr H.out.upd
        have ix : ((i : Int) + 1).toNat = i + 1 := by omega
        have ll := HL.out.1
        clear cw hca
        generalize nth ns i = n at hn CN HL1 HV1 cn
        have hk2 : (wr.setCell ⟨q, i + 1, none⟩ (.int .u32 (n : Int))).heap[q]? = some (.cells (nums .u32 (v.set (i + 1) n)).toList.toArray 57 (0, 0)) := by
          rw [heap_setCell_eq (H.out.ok 0 _ rfl) (i + 1) (.int .u32 (n : Int))]
          congr 2
          rw [← nums_set]
        have H2 := H.out.set HT.out 0 rfl ((Upd.refl [q] wr).setCell (p := ⟨q, i + 1, none⟩) (by simp) (.int .u32 (n : Int))) (by simp [blk]) (A' := blk q (nums .u32 (v.set (i + 1) n)).toList 57) hk2 rfl
        replace H2 := Lib.hid H2
        clear hk2 H HL HV
        go_upto_region 10 with (fail)
        generalize wr.setCell ⟨q, i + 1, none⟩ (.int .u32 (n : Int)) = w2 at H2 ⊢
        have H := Lib.hid (show Env w [blk q (nums .u32 (v.set (i + 1) n)).toList 57, fileA fb b d l 0 0] w2 from H2.out)
        clear H2 c1 f1 cn ix
        have cn := CN.out w2 H.out.upd
        have W1 := E_fwrite H.out HT.out 1 rfl ((i : Int) + 1) n (by omega) hn
        have e : wrL l ((i : Int) + 1) n = l.set i (enc n) := by
          rw [wrL, if_neg (by omega), show (i : Int) + 1 - 1 = (i : Int) by omega, put_nat (by rw [ll]; exact h31)]
        rw [e] at W1
        replace W1 := Lib.hid W1
        clear e
        go_wp2_with (fail)
        refine W1.out.mono ?_
        rintro e w' ⟨rfl, H', u⟩
        simp only [List.set_cons_succ, List.set_cons_zero] at H'
        replace H := Lib.hid H'
        clear H' u cn W1 CN
        generalize v.set (i + 1) n = v1 at H HV1
        generalize l.set i (enc n) = l1 at H HL1
        rcases Nat.lt_or_ge i M with hiM | hiM
        · obtain ⟨bb, ob, rfl, hbb, hcb⟩ := HA2.out (by rw [← HM.out]; omega)
          have cz : w'.cell? ⟨bb, ob + i, none⟩ = some (.int .i64 (nthZ zs i)) := by
            rw [← hcb i (by rw [← HM.out]; omega)]; exact World.cell?_of_block (w := w) (H.out.upd.block bb hbb (by simp))
          obtain ⟨hm39, a, ha64, hab, hma⟩ := HBT.out i
          have gi : g i = some (bt i) := by rw [HG.out]; simp only; rw [if_pos hiM]
          have GI := Lib.hid gi
          clear gi hcb
          generalize bt i = m at hm39 hma GI
          generalize nthZ zs i = z at cz hab
          have hm : (a : Int) % 39 = (m : Int) := by omega
          have hl1 : i < l1.length := by rw [HL1.out.1]; exact h31
          have F1 := E_fflip H.out HT.out 1 rfl (((39 * i + m : Nat) : Int))
          obtain ⟨q1, q2⟩ := flip_nat hl1 (c := 39 * i + m) rfl hm39
          rw [q1, q2, show (((39 * i + m : Nat) : Int)) = 39 * (i : Int) + (m : Int) by omega] at F1
          have HL2 := Lib.hid (HL1.out.set (k := i) h31 (v := nth l1 i ^^^ 2 ^ m) (n' := fun j => if j < i + 1 then nth ns j else 0) (o' := fun j => if j < i + 1 then g j else none)
            (by rw [HL1.out.2 i h31]; simp only [if_pos (Nat.lt_succ_self i), if_neg (Nat.lt_irrefl i), GI.out]; rfl) (fun j hj hne => ⟨rfl, by split <;> split <;> first | rfl | omega⟩))
          replace F1 := Lib.hid F1
          clear q1 q2 HL1 hma hl1
          go_wp2_with (fail)
          refine F1.out.mono ?_
          rintro e w2 ⟨rfl, H', u⟩
          simp only [List.set_cons_succ, List.set_cons_zero] at H'
          replace H := Lib.hid H'
          clear H' u cz F1
          go_wp2_with (fail)
          go_roundg (31 - (i + 1))
          case measure => omega
          case rel => exact ⟨i + 1, _, v1, by go_num, by omega, rfl, HL2, HV1, H⟩
        · have gi : g i = none := by rw [HG.out]; simp only; rw [if_neg (by omega)]
          have HL2 : Hid (Held l1 (fun j => if j < i + 1 then nth ns j else 0) (fun j => if j < i + 1 then g j else none)) := Lib.hid ⟨HL1.out.1, fun j hj => by
            rw [HL1.out.2 j hj]
            by_cases e : j = i
            · subst e; simp only [if_pos (Nat.lt_succ_self j), if_neg (Nat.lt_irrefl j), gi]
            · simp only; congr 1; split <;> split <;> first | rfl | omega⟩
          clear HL1 gi
          go_wp2_with (fail)
          go_roundg (31 - (i + 1))
          case measure => omega
          case rel => exact ⟨i + 1, l1, v1, by go_num, by omega, rfl, HL2, HV1, H⟩
      · have HL1 : Hid (Held l (fun j => if j < i + 1 then nth ns j else 0) (fun j => if j < i then g j else none)) := Lib.hid ⟨HL.out.1, fun j hj => by
          rw [HL.out.2 j hj]
          by_cases e : j = i
          · subst e; simp only [if_neg (Nat.lt_irrefl j), if_pos (Nat.lt_succ_self j)]; rw [nth_out ns j (by rw [← HN.out]; exact hiN)]
          · simp only; congr 1; split <;> split <;> first | rfl | omega⟩
        have HV1 : Hid (v.length = 32 ∧ nth v 0 = 0 ∧ ∀ j, j < 31 → nth v (j + 1) = if j < i + 1 then nth ns j else 0) := Lib.hid ⟨HV.out.1, HV.out.2.1, fun j hj => by
          rw [HV.out.2.2 j hj]
          by_cases e : j = i
          · subst e; rw [if_neg (Nat.lt_irrefl j), if_pos (Nat.lt_succ_self j), nth_out ns j (by rw [← HN.out]; exact hiN)]
          · split <;> split <;> first | rfl | omega⟩
        clear HL HV
        generalize hw : wr = w' at H ⊢
        clear hw
        generalize v = v1 at H HV1
        generalize l = l1 at H HL1
        rcases Nat.lt_or_ge i M with hiM | hiM
        · obtain ⟨bb, ob, rfl, hbb, hcb⟩ := HA2.out (by rw [← HM.out]; omega)
          have cz : w'.cell? ⟨bb, ob + i, none⟩ = some (.int .i64 (nthZ zs i)) := by
            rw [← hcb i (by rw [← HM.out]; omega)]; exact World.cell?_of_block (w := w) (H.out.upd.block bb hbb (by simp))
          obtain ⟨hm39, a, ha64, hab, hma⟩ := HBT.out i
          have gi : g i = some (bt i) := by rw [HG.out]; simp only; rw [if_pos hiM]
          have GI := Lib.hid gi
          clear gi hcb
          generalize bt i = m at hm39 hma GI
          generalize nthZ zs i = z at cz hab
          have hm : (a : Int) % 39 = (m : Int) := by omega
          have hl1 : i < l1.length := by rw [HL1.out.1]; exact h31
          have F1 := E_fflip H.out HT.out 1 rfl (((39 * i + m : Nat) : Int))
          obtain ⟨q1, q2⟩ := flip_nat hl1 (c := 39 * i + m) rfl hm39
          rw [q1, q2, show (((39 * i + m : Nat) : Int)) = 39 * (i : Int) + (m : Int) by omega] at F1
          have HL2 := Lib.hid (HL1.out.set (k := i) h31 (v := nth l1 i ^^^ 2 ^ m) (n' := fun j => if j < i + 1 then nth ns j else 0) (o' := fun j => if j < i + 1 then g j else none)
            (by rw [HL1.out.2 i h31]; simp only [if_pos (Nat.lt_succ_self i), if_neg (Nat.lt_irrefl i), GI.out]; rfl) (fun j hj hne => ⟨rfl, by split <;> split <;> first | rfl | omega⟩))
          replace F1 := Lib.hid F1
          clear q1 q2 HL1 hma hl1
          go_wp2_with (fail)
          refine F1.out.mono ?_
          rintro e w2 ⟨rfl, H', u⟩
          simp only [List.set_cons_succ, List.set_cons_zero] at H'
          replace H := Lib.hid H'
          clear H' u cz F1
          go_wp2_with (fail)
          go_roundg (31 - (i + 1))
          case measure => omega
          case rel => exact ⟨i + 1, _, v1, by go_num, by omega, rfl, HL2, HV1, H⟩
        · have gi : g i = none := by rw [HG.out]; simp only; rw [if_neg (by omega)]
          have HL2 : Hid (Held l1 (fun j => if j < i + 1 then nth ns j else 0) (fun j => if j < i + 1 then g j else none)) := Lib.hid ⟨HL1.out.1, fun j hj => by
            rw [HL1.out.2 j hj]
            by_cases e : j = i
            · subst e; simp only [if_pos (Nat.lt_succ_self j), if_neg (Nat.lt_irrefl j), gi]
            · simp only; congr 1; split <;> split <;> first | rfl | omega⟩
          clear HL1 gi
          go_wp2_with (fail)
          go_roundg (31 - (i + 1))
          case measure => omega
          case rel => exact ⟨i + 1, l1, v1, by go_num, by omega, rfl, HL2, HV1, H⟩
    · obtain rfl : i = 31 := by omega
      have HLf : Hid (Held l (nth ns) g) := Lib.hid ⟨HL.out.1, fun j hj => by rw [HL.out.2 j hj]; simp only [if_pos hj]⟩
      have hv3 : ∀ j, j < 31 → nth v (j + 1) = nth ns j := fun j hj => by rw [HV.out.2.2 j hj, if_pos hj]
      obtain ⟨ha, hva⟩ := held_all HLf.out HS.out HGm.out HV.out.1 HV.out.2.1 hv3
      have lv := HV.out.1
      have FA := E_fall H.out HT.out 1 rfl HL.out.1
      rw [ha, if_pos rfl, ← hva] at FA
      replace FA := Lib.hid FA
      have so : (nums .u32 v).size = 32 := by rw [nums_size]; exact lv
      have q1 := run_neq_nums 57 23 32 .u32 Tryd.underlying57 Tryd.underlying23 (fun w => by rfl) v v lv lv
      rw [decide_eq_true rfl, Bool.not_true] at q1
      clear HV hv3 ha hva HL
      go_wp2_with (fail)
      refine FA.out.mono ?_
      rintro e w' ⟨rfl, H', u⟩
      replace H := Lib.hid H'
      clear H' u FA
      go_wp2_with (first
        | go_skip
        | (refine L_store_new 57 (.tmp 8) (.tmp 59) rfl (by kernel_rfl) _ (nums .u32 v) rfl rfl 32 info_r32 rfl so (nums_one _ _) ?_)
        | (refine L_load 57 (.tmp 8) rfl (by kernel_rfl) _ _ rfl (nums .u32 v) (row_range (Go.heap_alloc_last w' _)) Tryd.underlying57 rfl 32 info_r32 so ?_)
        | (refine L_load 57 (.tmp 6) rfl (by kernel_rfl) _ _ rfl (nums .u32 v) (row_range (heap_old (H.out.ok 0 _ rfl) _)) Tryd.underlying57 rfl 32 info_r32 so ?_))
      clear q1 so lv
      replace H := Lib.hid (H.out.near ((Upd.refl _ _).alloc (.cells (nums .u32 v) 57))).drop1
      generalize w'.alloc (.cells (nums .u32 v) 57) = w2 at H ⊢
      generalize l = l1 at HLf H
      go_loopg [10] 62 (fun k v10 wl => ∃ (i f : Nat) (l : List Nat), v10 = .int .i64 (i : Int) ∧ i ≤ 62 ∧ k = 62 - i ∧ f ≤ i ∧ Hid (Held l (nth ns) (fun j => if j < i then none else g j)) ∧ Hid (Env w [fileA fb b d l f (i % 31)] wl))
      case atStart => exact ⟨0, 0, l1, rfl, by omega, rfl, by omega, Lib.hid (by simpa using HLf.out), H⟩
      case round =>
        clear H HLf
        obtain ⟨i, f, l, rfl, hi, hk, hf, HL, H⟩ := hrel
        rcases Nat.lt_or_ge i 62 with h62 | h62
        · have hr : i % 31 < 31 := Nat.mod_lt _ (by decide)
          have hrl : i % 31 < l.length := by rw [HL.out.1]; exact hr
          obtain ⟨o, ho⟩ : ∃ o, o = (if i % 31 < i then none else g (i % 31)) := ⟨_, rfl⟩
          have ho39 : ∀ m, o = some m → m < 39 := fun m h => by
            rw [ho] at h; split at h
            · cases h
            · exact HGm.out _ _ h
          obtain ⟨p1, p2, p3, p4⟩ := get_wd hrl (HS.out (i % 31)) ho39 (by rw [HL.out.2 _ hr]; simp only [← ho])
          have S1 := E_fscrub H.out HT.out 0 rfl (by rw [HL.out.1]; omega) (by omega) (by omega)
          rw [HL.out.1, p1] at S1
          have e31 : (i % 31 + 1) % 31 = (i + 1) % 31 := by omega
          rw [e31] at S1
          have HL2 : Hid (Held (getL l ((i % 31 : Nat) : Int)) (nth ns) (fun j => if j < i + 1 then none else g j)) := Lib.hid ⟨p2.trans HL.out.1, fun j hj => by
            by_cases e : j = i % 31
            · rw [e, p3]
              have : i % 31 < i + 1 := by omega
              simp only [if_pos this]
            · rw [p4 j e, HL.out.2 j hj]
              simp only
              congr 1
              split <;> split <;> first | rfl | omega⟩
          have hgf := getF_le' l ((i % 31 : Nat) : Int)
          generalize getL l ((i % 31 : Nat) : Int) = l2 at S1 HL2
          obtain ⟨f2, hf2⟩ : ∃ f2, f2 = f + getF l ((i % 31 : Nat) : Int) := ⟨_, rfl⟩
          rw [← hf2] at S1
          have hf2' : f2 ≤ i + 1 := by omega
          replace S1 := Lib.hid S1
          have HO := Lib.hid ho
          clear hf2 hgf e31 p1 p2 p3 p4 ho ho39 hr hrl HL
          rcases Nat.lt_or_ge i 31 with h31 | h31
          · have eo : o = g i := by rw [HO.out, Nat.mod_eq_of_lt h31, if_neg (by omega)]
            rcases Nat.lt_or_ge i M with hiM | hiM
            · have e1 : o.isSome = true := by rw [eo, HG.out]; simp only [if_pos hiM]; rfl
              rw [if_pos e1] at S1
              clear e1
              try clear eo
              go_wp2_with (fail)
              refine S1.out.mono ?_
              rintro e w3 ⟨rfl, H', u⟩
              simp only [List.set_cons_zero] at H'
              replace H := Lib.hid H'
              clear H' u S1
              go_wp2_with (fail)
              go_roundg (62 - (i + 1))
              case measure => omega
              case rel => exact ⟨i + 1, f2, l2, by go_num, by omega, rfl, hf2', HL2, H⟩
            · have e1 : ¬ o.isSome = true := by rw [eo, HG.out]; simp only [if_neg (show ¬ i < M by omega)]; simp
              rw [if_neg e1] at S1
              clear e1
              try clear eo
              go_wp2_with (fail)
              refine S1.out.mono ?_
              rintro e w3 ⟨rfl, H', u⟩
              simp only [List.set_cons_zero] at H'
              replace H := Lib.hid H'
              clear H' u S1
              go_wp2_with (fail)
              go_roundg (62 - (i + 1))
              case measure => omega
              case rel => exact ⟨i + 1, f2, l2, by go_num, by omega, rfl, hf2', HL2, H⟩
          · have e1 : ¬ o.isSome = true := by rw [HO.out, if_pos (by omega)]; simp
            rw [if_neg e1] at S1
            clear e1
            try clear eo
            go_wp2_with (fail)
            refine S1.out.mono ?_
            rintro e w3 ⟨rfl, H', u⟩
            simp only [List.set_cons_zero] at H'
            replace H := Lib.hid H'
            clear H' u S1
            go_wp2_with (fail)
            go_roundg (62 - (i + 1))
            case measure => omega
            case rel => exact ⟨i + 1, f2, l2, by go_num, by omega, rfl, hf2', HL2, H⟩
        · have K3 := Lib.hid (K.out _ H.out.tz)
          go_wp2_with (fail)
          refine K3.out.mono ?_
          rintro e w3 ⟨rfl, hb⟩
          go_wp2_with (fail)
          go_ret
          exact ⟨rfl, HU.out _ _ (H.out.near (Upd.of_below hb))⟩
end Go.Proofs.YtjnjpnnogdldaaaDoor
