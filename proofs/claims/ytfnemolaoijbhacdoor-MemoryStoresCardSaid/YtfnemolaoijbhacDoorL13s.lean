/- Law 13: MemoryStores. -/
import Derived.Test.YtfnemolaoijbhacDoorL13k
import Derived.Test.YtfnemolaoijbhacDoorInts
import Derived.Deep.LoopGhost
namespace Go.Proofs.YtfnemolaoijbhacDoor
open Go.RowKit Go.Dio
set_option linter.unusedSimpArgs false
set_option linter.unusedVariables false

theorem nth_rep13 (n j : Nat) : nth (List.replicate n 0) j = 0 := by
  unfold nth
  rw [List.getD, List.getElem?_replicate]
  split <;> rfl
theorem and15u (z : Nat) : bits .and .u32 (z : Int) 15 = (z : Int) % 16 := by
  have e : bits .and .u32 (z : Int) 15 = IntKind.u32.wrap (((BitVec.ofInt 32 (z : Int)) &&& (BitVec.ofInt 32 15)).toNat : Int) := rfl
  have h1 : (BitVec.ofInt 32 15 : BitVec 32).toNat = 2 ^ 4 - 1 := by decide
  rw [BitVec.toNat_and, h1, Nat.and_two_pow_sub_one_eq_mod] at e
  rw [e, BitVec.toNat_ofInt]
  have w1 : IntKind.u32.wrap ((((z : Int) % ((2 ^ 32 : Nat) : Int)).toNat % 2 ^ 4 : Nat) : Int) = ((((z : Int) % ((2 ^ 32 : Nat) : Int)).toNat % 2 ^ 4 : Nat) : Int) := wrap32 (by omega) (by omega)
  rw [w1]
  omega
theorem wrap39 {m r : Nat} (hm : m < 16) (hr : r < 39) : RowKit.wrap64 (RowKit.wrap64 (39 * (m : Int)) + (r : Int)) = 39 * (m : Int) + (r : Int) := by
  have e : RowKit.wrap64 (39 * (m : Int)) = 39 * (m : Int) := by unfold RowKit.wrap64; omega
  rw [e]
  unfold RowKit.wrap64
  omega
theorem pick39 (z : Int) : ∃ (m r t : Nat) (M X R Y : Int), m < 16 ∧ r < 39 ∧ Y = ((39 * m + r : Nat) : Int) ∧ bits .and .i64 (z / 64) 15 = M ∧ RowKit.wrap64 (39 * M) = X ∧ bits .and .i64 z 63 = (t : Int) ∧ (t : Int) % 39 = R ∧ RowKit.wrap64 (X + R) = Y := by
  obtain ⟨t, ht, hat⟩ := andi63 z
  refine ⟨(z / 64 % 16).toNat, t % 39, t, _, _, _, _, by omega, by omega, ?_, rfl, rfl, hat, rfl, rfl⟩
  rw [and15]
  unfold RowKit.wrap64
  omega
theorem cnt_one {m t : Nat} : ∀ k, cnt (fun j => if j = m then some t else none) k = if m < k then 1 else 0
  | 0 => by simp [cnt]
  | k + 1 => by
    rw [cnt, cnt_one k]
    by_cases e : k = m
    · subst e; simp
    · have : (m < k + 1) ↔ (m < k) := by omega
      simp only [if_neg e, this]; simp
theorem addr_ok {k : Nat} (hk : k < 1024) : mayE (4 * k) = 0 ∧ 4 * k / 4 = k := ⟨by unfold mayE; rw [if_neg (by omega), if_neg (by omega)], by omega⟩
theorem nth_lt2 {v : List Nat} (hv : ∀ x ∈ v, x < 2 ^ 32) (j : Nat) : nth v j < 2 ^ 32 := nth_lt hv (by decide) j
theorem held_load {l v : List Nat} (h : HeldN 1024 l (nth v) (fun _ => none)) (hv : ∀ x ∈ v, x < 2 ^ 32) {k : Nat} (hk : k < 1024) :
    mloadV l (4 * k) = (nth v k, 0) ∧ mloadL l (4 * k) = l ∧ mloadF l (4 * k) = 0 := by
  obtain ⟨e, q⟩ := addr_ok hk
  have hl := h.1
  have p : peekL l (k : Int) = (nth v k, 0) := by rw [peek_nat' (by omega), h.2 k hk, dec_wd (nth_lt2 hv k) (by simp)]; rfl
  obtain ⟨g1, g2⟩ := getL_other (l := l) (i := (k : Int)) (by rw [p]; simp)
  exact ⟨by rw [mloadV, e, q, p]; simp, by rw [mloadL, e, q, g1]; simp, by rw [mloadF, e, q, g2]; simp⟩
theorem held_store {l v : List Nat} (h : HeldN 1024 l (nth v) (fun _ => none)) (hv : ∀ x ∈ v, x < 2 ^ 32) {k x : Nat} (hk : k < v.length) (hl : v.length ≤ 1024) (hx : x < 2 ^ 32) :
    mstoreE l (4 * k) 15 = 0 ∧ mloadF l (4 * k) = 0 ∧ HeldN 1024 (mstoreL l (4 * k) x 15) (nth (v.set k x)) (fun _ => none) := by
  obtain ⟨e, q⟩ := addr_ok (k := k) (by omega)
  obtain ⟨-, -, e2⟩ := held_load h hv (k := k) (by omega)
  have p : peekL l (k : Int) = (nth v k, 0) := by rw [peek_nat' (by have := h.1; omega), h.2 k (by omega), dec_wd (nth_lt2 hv k) (by simp)]; rfl
  obtain ⟨g1, g2⟩ := getL_other (l := l) (i := (k : Int)) (by rw [p]; simp)
  refine ⟨by rw [mstoreE, e, q, p]; simp, e2, ?_⟩
  have e3 : mstoreL l (4 * k) x 15 = l.set k (enc x) := by
    rw [mstoreL, e, q, p, g1, mrg_full (nth_lt2 hv k) hx (by decide), put_nat (by have := h.1; omega)]; simp
  rw [e3]
  exact h.set (by omega) (by rw [nth_set_eq hk]; simp [wd]) (fun j hj hne => ⟨nth_set_ne (fun h => hne h.symm), rfl⟩)
theorem held_flip {l v : List Nat} (h : HeldN 1024 l (nth v) (fun _ => none)) {k m : Nat} (hk : k < 1024) (hm : m < 39) :
    flipB l ((39 * k + m : Nat) : Int) = true ∧ HeldN 1024 (flipL l ((39 * k + m : Nat) : Int)) (nth v) (fun j => if j = k then some m else none) := by
  obtain ⟨a, b⟩ := flip_nat (l := l) (c := 39 * k + m) (k := k) (m := m) (by have := h.1; omega) rfl hm
  refine ⟨a, ?_⟩
  rw [b]
  exact h.set hk (by rw [h.2 k hk]; simp [wd]) (fun j hj hne => ⟨rfl, by simp only [if_neg hne]⟩)
set_option maxRecDepth 20000 in
set_option maxHeartbeats 4000000 in
theorem stores13_walk (A A2 A3 : Option Addr) (us ds : List Nat) (zs : List Int) (c c2 c3 : Nat) (w : World) (hA : NumsAt w .u32 A us) (hA2 : NumsAt w .u32 A2 ds) (hA3 : IntsAt w A3 zs) (hs : ∀ x ∈ us, x < 2 ^ 32) (hs2 : ∀ x ∈ ds, x < 2 ^ 32) (hl : us.length ≤ 9223372036854775807) (hl2 : ds.length ≤ 9223372036854775807) (hl3 : zs.length ≤ 9223372036854775807) (hT : Tz w) :
    Calls Tryd.prog 6 #[.slice A us.length c, .slice A2 ds.length c2, .slice A3 zs.length c3] w fun e w' => e = .returned (.bool true) ∧ Below w.heap.size w w' := by
  have N1 := Lib.hid (E_mnew (Env.none hT) none [] 0 (numsAt_nil _ _ _) (by simp) (by decide))
  have h0 := Lib.hid (show HeldN 1024 (newL []) (nth (zeros 16)) (fun _ => none) from ⟨(newL_held []).1, fun j hj => by rw [(newL_held []).2 j hj, zeros, nth_rep13]; rfl⟩)
  generalize newL [] = l0 at N1 h0
  have HA := Lib.hid hA
  have HA2 := Lib.hid hA2
  have HA3 := Lib.hid hA3
  have HS := Lib.hid fun i => nth_lt hs (by decide) i
  have HS2 := Lib.hid fun i => nth_lt hs2 (by decide) i
  have HT := Lib.hid hT
  have hu : ∀ As w', Env w As w' → Below w.heap.size w w' := fun _ _ h => h.below
  have HU := Lib.hid hu
  have K := Lib.hid fun w' (h : Tz w') => known13_calls w' h
  clear hA hA2 hA3 hs hs2 hu hT
  obtain ⟨N, hN⟩ : ∃ N, N = us.length := ⟨_, rfl⟩
  obtain ⟨N2, hN2⟩ : ∃ N, N = ds.length := ⟨_, rfl⟩
  obtain ⟨M, hM⟩ : ∃ M, M = zs.length := ⟨_, rfl⟩
  rw [← hN] at hl ⊢
  rw [← hN2] at hl2 ⊢
  rw [← hM] at hl3 ⊢
  have HN := Lib.hid hN
  have HN2 := Lib.hid hN2
  have HM := Lib.hid hM
  clear hN hN2 hM
  generalize w.heap.size + 2 = mb at N1
  generalize w.heap.size + 1 = b at N1
  generalize w.heap.size = d at N1 HU ⊢
  go_enter Tryd.func6, Tryd.ntmps6
  go_wp2_with (fail)
  refine N1.out.mono ?_
  rintro e w1 ⟨rfl, H'⟩
  replace H := Lib.hid H'
  clear H' N1
  go_wp2_with (fail)
  generalize hq : w1.heap.size = q
  have HQ := Lib.hid hq
  clear hq
  have hsz : w1.heap.size < (w1.alloc (.cells (nums .u32 (zeros 16)) 48)).heap.size := by simp
  go_loopg [10] 40 (fun k v10 wl => ∃ (i f : Nat) (l v : List Nat), v10 = .int .i64 (i : Int) ∧ i ≤ 40 ∧ k = 40 - i ∧ f ≤ i ∧ v.length = 16 ∧ Hid (HeldN 1024 l (nth v) (fun _ => none)) ∧ Hid (∀ x ∈ v, x < 2 ^ 32) ∧ Hid (Env w [blk q (nums .u32 v).toList 48, memA mb b d l f 0] wl))
  case atStart => exact ⟨0, 0, l0, zeros 16, rfl, by omega, rfl, by omega, rfl, h0, Lib.hid (by decide), Lib.hid (by rw [← HQ.out]; exact H.out.add ((Upd.refl _ _).alloc _) (blk w1.heap.size (nums .u32 (zeros 16)).toList 48) (Go.heap_alloc_last w1 _) (by simp [blk]) (fun x hx => by simp [blk] at hx; subst hx; exact ⟨Nat.le_refl _, hsz⟩))⟩
  case round =>
    clear H h0 hsz
    obtain ⟨i, f, l, v, rfl, hi, hk, hf, hv, HL, HV, H⟩ := hrel
    rcases Nat.lt_or_ge i N with hiN | hiN
    · rcases Nat.lt_or_ge i N2 with hiN2 | hiN2
      · rcases Nat.lt_or_ge i 40 with hi40 | hi40
        · obtain ⟨ba, oa, rfl, hba, hca⟩ := HA.out (by rw [← HN.out]; omega)
          obtain ⟨bb, ob, rfl, hbb, hcb⟩ := HA2.out (by rw [← HN2.out]; omega)
          have CA := Lib.hid fun wl (u : Upd [] w wl) => (show wl.cell? ⟨ba, oa + i, none⟩ = some (.int .u32 ((nth us i : Nat) : Int)) by rw [← hca i (by rw [← HN.out]; omega)]; exact World.cell?_of_block (w := w) (u.block ba hba (by simp)))
          have CB := Lib.hid fun wl (u : Upd [] w wl) => (show wl.cell? ⟨bb, ob + i, none⟩ = some (.int .u32 ((nth ds i : Nat) : Int)) by rw [← hcb i (by rw [← HN2.out]; omega)]; exact World.cell?_of_block (w := w) (u.block bb hbb (by simp)))
          have hn := HS2.out i
          clear hca hcb
          have ca := CA.out _ H.out.upd
          have cb := CB.out _ H.out.upd
          have a15 := and15u (nth us i)
          generalize nth us i = x at CA ca a15
          generalize nth ds i = y at CB cb hn
          obtain ⟨k, hk16, hkx⟩ : ∃ k : Nat, k < 16 ∧ ((x : Int) % 16) = (k : Int) := ⟨x % 16, by omega, by omega⟩
          rw [hkx] at a15
          clear hkx
          have S := held_store HL.out HV.out (k := k) (x := y) (by omega) (by omega) hn
          have S1 := E_mstore H.out HT.out 1 rfl (4 * k) y 15 (by omega) hn (by omega)
          rw [S.1, S.2.1, show ((4 * k : Nat) : Int) = 4 * (k : Int) by omega] at S1
          have HL2 := Lib.hid S.2.2
          have HV2 : Hid (∀ x ∈ v.set k y, x < 2 ^ 32) := Lib.hid fun x hx => by
            rcases List.mem_or_eq_of_mem_set hx with h | h
            · exact HV.out x h
            · exact h ▸ hn
          have hv2 : (v.set k y).length = 16 := by simpa using hv
          replace S1 := Lib.hid S1
          simp only [List.set_cons_succ, List.set_cons_zero] at S1
          generalize mstoreL l (4 * k) y 15 = l2 at S1 HL2
          clear S
          go_wp2_with (fail)
          refine S1.out.mono ?_
          rintro e w2 ⟨rfl, H', u⟩
          replace H := Lib.hid H'
          clear H' u S1 ca cb CA
          have cb := CB.out _ H.out.upd
          have c1 : w2.cell? ⟨q, k, none⟩ = some (.int .u32 ((nth v k : Nat) : Int)) := by
            rw [cells_of (H.out.ok 0 _ rfl) k]
            have := nums_nth .u32 v k (by omega)
            simpa using this
          have f1 : w2.frozen? ⟨q, k, none⟩ = false := free_of (H.out.ok 0 _ rfl) k
          have hk2 : (w2.setCell ⟨q, k, none⟩ (.int .u32 (y : Int))).heap[q]? = some (.cells (nums .u32 (v.set k y)).toList.toArray 48 (0, 0)) := by
            rw [heap_setCell_eq (H.out.ok 0 _ rfl) k (.int .u32 (y : Int))]
            congr 2
            rw [← nums_set]
          have H2 := H.out.set HT.out 0 rfl ((Upd.refl [q] w2).setCell (p := ⟨q, k, none⟩) (by simp) (.int .u32 (y : Int))) (by simp [blk]) (A' := blk q (nums .u32 (v.set k y)).toList 48) hk2 rfl
          replace H2 := Lib.hid H2
          clear hk2 H HL HV
          have ix : ((k : Nat) : Int).toNat = k := Int.toNat_natCast k
          go_upto_region 12 with (fail)
          generalize w2.setCell ⟨q, k, none⟩ (.int .u32 (y : Int)) = w3 at H2 ⊢
          have H := Lib.hid (show Env w [blk q (nums .u32 (v.set k y)).toList 48, memA mb b d l2 f 0] w3 from H2.out)
          clear H2 c1 f1 cb ix CB hn
          generalize v.set k y = v2 at H HL2 HV2 hv2
          rcases Nat.lt_or_ge i M with hiM | hiM
          · obtain ⟨bc, oc, rfl, hbc, hcc⟩ := HA3.out (by rw [← HM.out]; omega)
            have cz : w3.cell? ⟨bc, oc + i, none⟩ = some (.int .i64 (nthZ zs i)) := by
              rw [← hcc i (by rw [← HM.out]; omega)]; exact World.cell?_of_block (w := w) (H.out.upd.block bc hbc (by simp))
            generalize nthZ zs i = z at cz
            clear hcc
            obtain ⟨m, r, t, Mm, X, R, Y, hm16, hr39, hY, a15, aX, hat, aR, aY⟩ := pick39 z
            have n0 : ∀ x : Near [d] w3, x.1.cell? ⟨bc, oc + i, none⟩ = some (.int .i64 z) := fun x => by
              have hd : w.heap.size ≤ d := (H.out.old d (by simp [memA, blk])).1
              have hb3 : bc < w3.heap.size := Nat.lt_of_lt_of_le hbc H.out.upd.size
              rw [← cz]
              exact World.cell?_of_block (w := w3) (x.2.block bc hb3 (by simp; omega))
            clear cz
            obtain ⟨-, hfl⟩ := held_flip HL2.out (k := m) (m := r) (by omega) hr39
            have F1 := Lib.hid fun w1 (h : Env w [blk q (nums .u32 v2).toList 48, memA mb b d l2 f 0] w1) => E_mflip h HT.out 1 rfl Y
            simp only [List.set_cons_succ, List.set_cons_zero] at F1
            rw [← hY] at hfl
            generalize flipL l2 Y = l3 at F1 hfl
            generalize flipB l2 Y = b3 at F1
            have S3 := Lib.hid fun w1 (h : Env w [blk q (nums .u32 v2).toList 48, memA mb b d l3 f 0] w1) => E_mscrub_all h HT.out 1 rfl rfl (by omega) hfl (nth_lt2 HV2.out) (fun j m' h => by by_cases e : j = m <;> simp [e] at h; subst h; exact hr39)
            rw [cnt_one, if_pos (by omega)] at S3
            simp only [List.set_cons_succ, List.set_cons_zero] at S3
            clear hfl hY hm16 hr39
            go_wp2_with (fail)
            refine wp_region_plan (fun z => ∃ x : Near [d] w3, z = x.1) [([0, 1, 2, 3, 4, 5, 6, 7, 8, 9, 10, 11, 12, 13, 14], 15)] [] (by kernel_rfl) (by kernel_rfl) (by kernel_rfl) (by kernel_rfl) (fun _ d _ _ _ h => by cases d <;> exact h) ⟨⟨(w3).drew, (Upd.refl _ _).drew⟩, rfl⟩ ?_
            refine plan_next ?_
            simp only [opsAt, List.map_cons, List.map_nil, List.getElem?_toArray, List.getElem?_cons_zero, List.getElem?_cons_succ, Option.getD_some]
            repeat (go_big_quiet_step (fail))
            refine wpQuiet_nil ?_
            refine plan_one rfl ?_
            go_wp2_with fail
            refine (F1.out _ (H.out.near (Upd.refl _ _).drew)).mono ?_
            rintro e w4 ⟨rfl, H', u⟩
            replace H := Lib.hid H'
            have U4 : Upd [d] w3 w4 := ((Upd.refl [d] w3).drew).trans u
            clear H' u F1
            go_wp2_with fail
            refine plan_same ⟨⟨_, U4⟩, rfl⟩ ?_
            refine plan_last ?_
            simp only [opsAt, List.map_cons, List.map_nil, List.getElem?_toArray, List.getElem?_cons_zero, List.getElem?_cons_succ, Option.getD_some]
            repeat (go_big_quiet_step (fail))
            refine wpQuiet_nil ?_
            unfold planEnd
            go_wp2_with fail
            clear U4 n0 hat a15 aX aR aY
            go_wp2_with (fail)
            refine (S3.out _ H.out).mono ?_
            rintro e w5 ⟨rfl, l5, h5, H', u⟩
            replace H := Lib.hid H'
            have HL5 := Lib.hid h5
            clear H' u h5 S3
            go_wp2_with (fail)
            go_roundg (40 - (i + 1))
            case measure => omega
            case rel => exact ⟨i + 1, f + 1, l5, v2, by go_num, by omega, rfl, by omega, hv2, HL5, HV2, H⟩
          · go_wp2_with (fail)
            go_roundg (40 - (i + 1))
            case measure => omega
            case rel => exact ⟨i + 1, f, l2, v2, by go_num, by omega, rfl, by omega, hv2, HL2, HV2, H⟩
        ·
          have hf40 : f ≤ 40 := by omega
          go_wp2_with (fail)
          clear hi hk
          go_loopg [90] 16 (fun k v90 wl => ∃ j : Nat, v90 = .int .i64 (j : Int) ∧ j ≤ 16 ∧ k = 16 - j ∧ Hid (Env w [blk q (nums .u32 v).toList 48, memA mb b d l f 0] wl))
          case atStart => exact ⟨0, rfl, by omega, rfl, H⟩
          case round =>
            clear H
            obtain ⟨j, rfl, hj, hk, H⟩ := hrel
            rcases Nat.lt_or_ge j 16 with h16 | h16
            · obtain ⟨p1, p2, p3⟩ := held_load HL.out HV.out (k := j) (by omega)
              have L1 := E_mload H.out HT.out 1 rfl (4 * j) (by omega) (by omega)
              rw [p1, p2, p3, show ((4 * j : Nat) : Int) = 4 * (j : Int) by omega] at L1
              simp only [List.set_cons_succ, List.set_cons_zero, Nat.add_zero] at L1
              replace L1 := Lib.hid L1
              clear p1 p2 p3
              have nn := nums_nth .u32 v j (by omega)
              generalize nth v j = x at L1 nn
              have NN := Lib.hid nn
              clear nn
              have ix : ((j : Nat) : Int).toNat = j := Int.toNat_natCast j
              go_wp2_with (fail)
              refine L1.out.mono ?_
              rintro e w2 ⟨rfl, H', u⟩
              replace H := Lib.hid H'
              clear H' u L1
              have c1 : w2.cell? ⟨q, j, none⟩ = some (.int .u32 (x : Int)) := by
                rw [cells_of (H.out.ok 0 _ rfl) j]
                simpa using NN.out
              go_wp2_with (fail)
              go_roundg (16 - (j + 1))
              case measure => omega
              case rel => exact ⟨j + 1, by go_num, by omega, rfl, H⟩
            · have K3 := Lib.hid (K.out _ H.out.tz)
              go_wp2_with (fail)
              refine K3.out.mono ?_
              rintro e w3 ⟨rfl, hb⟩
              go_wp2_with (fail)
              go_ret
              exact ⟨rfl, HU.out _ _ (H.out.near (Upd.of_below hb))⟩
      ·
        have hf40 : f ≤ 40 := by omega
        go_wp2_with (fail)
        clear hi hk
        go_loopg [90] 16 (fun k v90 wl => ∃ j : Nat, v90 = .int .i64 (j : Int) ∧ j ≤ 16 ∧ k = 16 - j ∧ Hid (Env w [blk q (nums .u32 v).toList 48, memA mb b d l f 0] wl))
        case atStart => exact ⟨0, rfl, by omega, rfl, H⟩
        case round =>
          clear H
          obtain ⟨j, rfl, hj, hk, H⟩ := hrel
          rcases Nat.lt_or_ge j 16 with h16 | h16
          · obtain ⟨p1, p2, p3⟩ := held_load HL.out HV.out (k := j) (by omega)
            have L1 := E_mload H.out HT.out 1 rfl (4 * j) (by omega) (by omega)
            rw [p1, p2, p3, show ((4 * j : Nat) : Int) = 4 * (j : Int) by omega] at L1
            simp only [List.set_cons_succ, List.set_cons_zero, Nat.add_zero] at L1
            replace L1 := Lib.hid L1
            clear p1 p2 p3
            have nn := nums_nth .u32 v j (by omega)
            generalize nth v j = x at L1 nn
            have NN := Lib.hid nn
            clear nn
            have ix : ((j : Nat) : Int).toNat = j := Int.toNat_natCast j
            go_wp2_with (fail)
            refine L1.out.mono ?_
            rintro e w2 ⟨rfl, H', u⟩
            replace H := Lib.hid H'
            clear H' u L1
            have c1 : w2.cell? ⟨q, j, none⟩ = some (.int .u32 (x : Int)) := by
              rw [cells_of (H.out.ok 0 _ rfl) j]
              simpa using NN.out
            go_wp2_with (fail)
            go_roundg (16 - (j + 1))
            case measure => omega
            case rel => exact ⟨j + 1, by go_num, by omega, rfl, H⟩
          · have K3 := Lib.hid (K.out _ H.out.tz)
            go_wp2_with (fail)
            refine K3.out.mono ?_
            rintro e w3 ⟨rfl, hb⟩
            go_wp2_with (fail)
            go_ret
            exact ⟨rfl, HU.out _ _ (H.out.near (Upd.of_below hb))⟩
    ·
      have hf40 : f ≤ 40 := by omega
      go_wp2_with (fail)
      clear hi hk
      go_loopg [90] 16 (fun k v90 wl => ∃ j : Nat, v90 = .int .i64 (j : Int) ∧ j ≤ 16 ∧ k = 16 - j ∧ Hid (Env w [blk q (nums .u32 v).toList 48, memA mb b d l f 0] wl))
      case atStart => exact ⟨0, rfl, by omega, rfl, H⟩
      case round =>
        clear H
        obtain ⟨j, rfl, hj, hk, H⟩ := hrel
        rcases Nat.lt_or_ge j 16 with h16 | h16
        · obtain ⟨p1, p2, p3⟩ := held_load HL.out HV.out (k := j) (by omega)
          have L1 := E_mload H.out HT.out 1 rfl (4 * j) (by omega) (by omega)
          rw [p1, p2, p3, show ((4 * j : Nat) : Int) = 4 * (j : Int) by omega] at L1
          simp only [List.set_cons_succ, List.set_cons_zero, Nat.add_zero] at L1
          replace L1 := Lib.hid L1
          clear p1 p2 p3
          have nn := nums_nth .u32 v j (by omega)
          generalize nth v j = x at L1 nn
          have NN := Lib.hid nn
          clear nn
          have ix : ((j : Nat) : Int).toNat = j := Int.toNat_natCast j
          go_wp2_with (fail)
          refine L1.out.mono ?_
          rintro e w2 ⟨rfl, H', u⟩
          replace H := Lib.hid H'
          clear H' u L1
          have c1 : w2.cell? ⟨q, j, none⟩ = some (.int .u32 (x : Int)) := by
            rw [cells_of (H.out.ok 0 _ rfl) j]
            simpa using NN.out
          go_wp2_with (fail)
          go_roundg (16 - (j + 1))
          case measure => omega
          case rel => exact ⟨j + 1, by go_num, by omega, rfl, H⟩
        · have K3 := Lib.hid (K.out _ H.out.tz)
          go_wp2_with (fail)
          refine K3.out.mono ?_
          rintro e w3 ⟨rfl, hb⟩
          go_wp2_with (fail)
          go_ret
          exact ⟨rfl, HU.out _ _ (H.out.near (Upd.of_below hb))⟩
end Go.Proofs.YtfnemolaoijbhacDoor
