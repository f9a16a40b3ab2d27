/- Law 13: MemoryMends. -/
import Derived.Test.YtfnemolaoijbhadDoorL13s
namespace Go.Proofs.YtfnemolaoijbhadDoor
open Go.RowKit Go.Dio
set_option linter.unusedSimpArgs false
set_option linter.unusedVariables false

/-- The first i of them have one bit turned. -/
theorem cnt_first (t : Nat → Nat) (M : Nat) : ∀ k, cnt (fun j => if j < M then some (t j) else none) k = min k M
  | 0 => by simp [cnt]
  | k + 1 => by
    rw [cnt, cnt_first t M k]
    by_cases e : k < M
    · simp only [if_pos e, Option.isSome_some, if_true]; omega
    · simp only [if_neg e, Option.isSome_none]; simp; omega
theorem held_turn {l : List Nat} {n : Nat → Nat} {t : Nat → Nat} {i : Nat} (h : HeldN 1024 l n (fun j => if j < i then some (t j) else none)) (hi : i < 1024) (ht : t i < 39) :
    flipB l ((39 * i + t i : Nat) : Int) = true ∧ HeldN 1024 (flipL l ((39 * i + t i : Nat) : Int)) n (fun j => if j < i + 1 then some (t j) else none) := by
  obtain ⟨a, b⟩ := flip_nat (l := l) (c := 39 * i + t i) (k := i) (m := t i) (by have := h.1; omega) rfl ht
  refine ⟨a, ?_⟩
  rw [b]
  refine h.set hi ?_ (fun j hj hne => ⟨rfl, ?_⟩)
  · rw [h.2 i hi]; simp only [if_neg (Nat.lt_irrefl i), if_pos (Nat.lt_succ_self i)]; rfl
  · have : (j < i + 1) ↔ (j < i) := by omega
    simp only [this]
theorem E_mwords {w0 : World} {As : List Ast} {w : World} (h : Env w0 As w) (k : Nat) {mb b d : Nat} {l : List Nat} {f a : Nat} (hk : As[k]? = some (memA mb b d l f a)) {n : Nat → Nat} {o : Nat → Option Nat} (hh : HeldN 1024 l n o) (hn : ∀ j, n j < 2 ^ 32) (ho : ∀ j m, o j = some m → m < 39) :
    Calls Tryd.prog 6 #[.pointer (some ⟨mb, 0, none⟩)] w fun e w' => e = .returned (.tuple #[.slice (some ⟨w.heap.size, 0, none⟩) 1024 1024, .int .i64 0]) ∧ ∃ v : List Nat, v.length = 1024 ∧ (∀ j, j < 1024 → nth v j = n j) ∧ Env w0 (blk w.heap.size (nums .u32 v).toList 34 :: As) w' := by
  obtain ⟨p1, p2, p3⟩ := words_held hh hn ho
  refine (MWords_calls mb b d l f a w (h.ok k _ hk) hh.1).mono ?_
  rintro e w' ⟨hb, h1 | h1⟩
  · obtain ⟨-, rfl, hq⟩ := h1
    refine ⟨rfl, wrdV l, p2, p3, h.add (Upd.of_below hb) _ (by simpa [blk] using hq) (by simp [blk]) (fun x hx => ?_)⟩
    have h3 := (Array.getElem?_eq_some_iff.mp hq).1
    simp [blk] at hx; omega
  · rw [p1] at h1; exact absurd h1.1 (by decide)
set_option maxRecDepth 20000 in
set_option maxHeartbeats 4000000 in
theorem mends13_walk (A A2 : Option Addr) (ns : List Nat) (zs : List Int) (c c2 : Nat) (w : World) (hA : NumsAt w .u32 A ns) (hA2 : IntsAt w A2 zs) (hs : ∀ x ∈ ns, x < 2 ^ 32) (hl : ns.length ≤ 9223372036854775807) (hc : ns.length ≤ c) (hl2 : zs.length ≤ 9223372036854775807) (hT : Tz w) :
    Calls Tryd.prog 3 #[.slice A ns.length c, .slice A2 zs.length c2] w fun e w' => e = .returned (.bool true) ∧ Below w.heap.size w w' := by
  have HA2 := Lib.hid hA2
  have HT := Lib.hid hT
  have hu : ∀ As w', Env w As w' → Below w.heap.size w w' := fun _ _ h => h.below
  have HU := Lib.hid hu
  have K := Lib.hid fun w' (h : Tz w') => known13_calls w' h
  clear hA2 hu
  obtain ⟨M, hM⟩ : ∃ M, M = zs.length := ⟨_, rfl⟩
  rw [← hM] at hl2 ⊢
  have HM := Lib.hid hM
  clear hM
  obtain ⟨bt, hbt⟩ : ∃ bt : Nat → Nat, ∀ j, bt j < 39 ∧ ∃ a : Nat, a < 64 ∧ bits .and .i64 (nthZ zs j) 63 = (a : Int) ∧ bt j = a % 39 :=
    ⟨fun j => (andi63 (nthZ zs j)).choose % 39, fun j => ⟨Nat.mod_lt _ (by decide), _, (andi63 (nthZ zs j)).choose_spec.1, (andi63 (nthZ zs j)).choose_spec.2, rfl⟩⟩
  have HBT := Lib.hid hbt
  clear hbt
  rcases Nat.lt_or_ge 40 ns.length with h40 | h40
  · have tk : (ns.take 40).length = 40 := by rw [List.length_take]; omega
    have N1 := E_mnew (Env.none hT) A (ns.take 40) c (hA.take 40) (fun x hx => hs x (List.mem_of_mem_take hx)) (by omega)
    rw [tk] at N1
    replace N1 := Lib.hid N1
    have HAm := Lib.hid (hA.take 40)
    have HS : Hid (∀ j, nth (ns.take 40) j < 2 ^ 32) := Lib.hid fun j => nth_lt (fun x hx => hs x (List.mem_of_mem_take hx)) (by decide) j
    clear hA hs hT
    generalize ns.take 40 = m at N1 tk HS HAm
    have HTK := Lib.hid tk
    clear tk
    generalize ns.length = N at *
    have h0 := Lib.hid (newL_held m)
    generalize newL m = l0 at N1 h0
    generalize w.heap.size + 2 = mb at N1
    generalize w.heap.size + 1 = b at N1
    generalize w.heap.size = d at N1 HU ⊢
    go_enter Tryd.func3, Tryd.ntmps3
    go_wp2_with (fail)
    refine N1.out.mono ?_
    rintro e w1 ⟨rfl, H'⟩
    replace H := Lib.hid H'
    clear H' N1
    go_wp2_with (fail)
    go_loopg [7, 8] 30 (fun k v7 v8 wl => ∃ (i : Nat) (l : List Nat), v7 = .int .i64 (i : Int) ∧ v8 = .int .i64 (i : Int) ∧ i ≤ 30 ∧ k = 30 - i ∧ i ≤ M ∧ Hid (HeldN 1024 l (nth m) (fun j => if j < i then some (bt j) else none)) ∧ Hid (Env w [memA mb b d l 0 0] wl))
    case atStart => exact ⟨0, l0, rfl, rfl, by omega, rfl, by omega, Lib.hid (by simpa using h0.out), H⟩
    case round =>
      clear H h0
      obtain ⟨i, l, rfl, rfl, hi, hk, him, HL, H⟩ := hrel
      rcases Nat.lt_or_ge i M with hiM | hiM
      · rcases Nat.lt_or_ge i 30 with hi30 | hi30
        · obtain ⟨bb, ob, rfl, hbb, hcb⟩ := HA2.out (by rw [← HM.out]; omega)
          have cz : wr.cell? ⟨bb, ob + i, none⟩ = some (.int .i64 (nthZ zs i)) := by
            rw [← hcb i (by rw [← HM.out]; omega)]; exact World.cell?_of_block (w := w) (H.out.upd.block bb hbb (by simp))
          obtain ⟨hm39, a, ha64, hab, hma⟩ := HBT.out i
          obtain ⟨q1, h1⟩ := held_turn HL.out (by omega) hm39
          have F1 := E_mflip H.out HT.out 0 rfl (((39 * i + bt i : Nat) : Int))
          rw [q1] at F1
          have HL2 := Lib.hid h1
          generalize flipL l (((39 * i + bt i : Nat) : Int)) = l2 at F1 HL2
          generalize bt i = y at hm39 hma F1
          rw [show (((39 * i + y : Nat) : Int)) = 39 * (i : Int) + (y : Int) by omega] at F1
          generalize nthZ zs i = z at cz hab
          have hm : (a : Int) % 39 = (y : Int) := by omega
          replace F1 := Lib.hid F1
          clear q1 h1 HL hma hcb
          go_wp2_with (fail)
          refine F1.out.mono ?_
          rintro e w2 ⟨rfl, H', u⟩
          simp only [List.set_cons_zero] at H'
          replace H := Lib.hid H'
          clear H' u cz F1
          go_wp2_with (fail)
          go_roundg (30 - (i + 1))
          case measure => omega
          case rel => exact ⟨i + 1, l2, by go_num, by go_num, by omega, rfl, by omega, HL2, H⟩
        ·
          obtain ⟨o, ho⟩ : ∃ o : Nat → Option Nat, o = fun j => if j < i then some (bt j) else none := ⟨_, rfl⟩
          have c1 : cnt o 1024 = i := by rw [ho, cnt_first]; omega
          have o39 : ∀ j x, o j = some x → x < 39 := fun j x h => by
            rw [ho] at h
            by_cases e : j < i <;> simp [e] at h
            subst h; exact (HBT.out j).1
          rw [← ho] at HL
          have WW := Lib.hid (E_mwords H.out 0 rfl HL.out HS.out o39)
          have S1 := Lib.hid fun q w1 v (h : Env w [blk q (nums .u32 v).toList 34, memA mb b d l 0 0] w1) => E_mscrub_all h HT.out 1 rfl rfl (by decide) HL.out HS.out o39
          rw [c1] at S1
          clear ho o39 c1 hk
          go_wp2_with (fail)
          refine WW.out.mono ?_
          rintro e w2 ⟨rfl, v, lv, hv, H'⟩
          replace H := Lib.hid H'
          clear H' WW
          generalize wr.heap.size = q at H ⊢
          go_wp2_with (fail)
          refine (S1.out _ _ _ H.out).mono ?_
          rintro e w3 ⟨rfl, l3, h3, H', u⟩
          replace H := Lib.hid H'
          clear H' u S1 HL
          have c0 : cnt (fun _ => none) 1024 = 0 := cnt_zero 1024 (fun _ _ => rfl)
          have S2 := Lib.hid (E_mscrub_all H.out HT.out 1 rfl rfl (by omega) h3 HS.out (fun j x h => by simp at h))
          rw [c0] at S2
          simp only [Nat.zero_add, Nat.add_zero, List.set_cons_succ, List.set_cons_zero] at S2 H
          clear c0 h3
          go_wp2_with (fail)
          refine S2.out.mono ?_
          rintro e w4 ⟨rfl, l4, h4, H', u⟩
          replace H := Lib.hid H'
          clear H' u S2 h4
          have FX := Lib.hid (E_mfixes H.out HT.out 1 rfl)
          go_wp2_with (fail)
          refine FX.out.mono ?_
          rintro e w5 ⟨rfl, rfl⟩
          clear FX
          go_wp2_with (fail)
          go_loopg [104] 1024 (fun k v104 wl => ∃ j : Nat, v104 = .int .i64 (j : Int) ∧ j ≤ 1024 ∧ k = 1024 - j ∧ Hid (Env w [blk q (nums .u32 v).toList 34, memA mb b d l4 i 0] wl))
          case atStart => exact ⟨0, rfl, by omega, rfl, H⟩
          case round =>
            clear H
            obtain ⟨j, rfl, hj, hk, H⟩ := hrel
            rcases Nat.lt_or_ge j 1024 with hj24 | hj24
            · have hvj := hv j hj24
              have cv : wr.cell? ⟨q, j, none⟩ = some (.int .u32 ((nth m j : Nat) : Int)) := by
                rw [cells_of (H.out.ok 0 _ rfl) j, ← hvj]
                have := nums_nth .u32 v j (by omega)
                simpa using this
              rcases Nat.lt_or_ge j m.length with hjm | hjm
              · obtain ⟨bi, oi, rfl, hbi, hci⟩ := HAm.out (by omega)
                have ci : wr.cell? ⟨bi, oi + j, none⟩ = some (.int .u32 ((nth m j : Nat) : Int)) := by
                  rw [← hci j hjm]; exact World.cell?_of_block (w := w) (H.out.upd.block bi hbi (by simp))
                rw [HTK.out] at hjm
                generalize nth m j = z at cv ci
                clear hci hvj hv
                go_wp2_with (fail)
                go_roundg (1024 - (j + 1))
                case measure => omega
                case rel => exact ⟨j + 1, by go_num, by omega, rfl, H⟩
              · rw [show nth m j = 0 by unfold nth; rw [List.getD_eq_getElem?_getD, List.getElem?_eq_none hjm]; rfl] at cv
                rw [HTK.out] at hjm
                clear hvj hv
                go_wp2_with (fail)
                go_roundg (1024 - (j + 1))
                case measure => omega
                case rel => exact ⟨j + 1, by go_num, by omega, rfl, H⟩
            · clear hv
              go_wp2_with (fail)
              refine (K.out _ H.out.tz).mono ?_
              rintro e w7 ⟨rfl, hb⟩
              go_wp2_with (fail)
              go_ret
              exact ⟨rfl, HU.out _ _ (H.out.near (Upd.of_below hb))⟩
      ·
        obtain ⟨o, ho⟩ : ∃ o : Nat → Option Nat, o = fun j => if j < i then some (bt j) else none := ⟨_, rfl⟩
        have c1 : cnt o 1024 = i := by rw [ho, cnt_first]; omega
        have o39 : ∀ j x, o j = some x → x < 39 := fun j x h => by
          rw [ho] at h
          by_cases e : j < i <;> simp [e] at h
          subst h; exact (HBT.out j).1
        rw [← ho] at HL
        have WW := Lib.hid (E_mwords H.out 0 rfl HL.out HS.out o39)
        have S1 := Lib.hid fun q w1 v (h : Env w [blk q (nums .u32 v).toList 34, memA mb b d l 0 0] w1) => E_mscrub_all h HT.out 1 rfl rfl (by decide) HL.out HS.out o39
        rw [c1] at S1
        clear ho o39 c1 hk
        go_wp2_with (fail)
        refine WW.out.mono ?_
        rintro e w2 ⟨rfl, v, lv, hv, H'⟩
        replace H := Lib.hid H'
        clear H' WW
        generalize wr.heap.size = q at H ⊢
        go_wp2_with (fail)
        refine (S1.out _ _ _ H.out).mono ?_
        rintro e w3 ⟨rfl, l3, h3, H', u⟩
        replace H := Lib.hid H'
        clear H' u S1 HL
        have c0 : cnt (fun _ => none) 1024 = 0 := cnt_zero 1024 (fun _ _ => rfl)
        have S2 := Lib.hid (E_mscrub_all H.out HT.out 1 rfl rfl (by omega) h3 HS.out (fun j x h => by simp at h))
        rw [c0] at S2
        simp only [Nat.zero_add, Nat.add_zero, List.set_cons_succ, List.set_cons_zero] at S2 H
        clear c0 h3
        go_wp2_with (fail)
        refine S2.out.mono ?_
        rintro e w4 ⟨rfl, l4, h4, H', u⟩
        replace H := Lib.hid H'
        clear H' u S2 h4
        have FX := Lib.hid (E_mfixes H.out HT.out 1 rfl)
        go_wp2_with (fail)
        refine FX.out.mono ?_
        rintro e w5 ⟨rfl, rfl⟩
        clear FX
        go_wp2_with (fail)
        go_loopg [104] 1024 (fun k v104 wl => ∃ j : Nat, v104 = .int .i64 (j : Int) ∧ j ≤ 1024 ∧ k = 1024 - j ∧ Hid (Env w [blk q (nums .u32 v).toList 34, memA mb b d l4 i 0] wl))
        case atStart => exact ⟨0, rfl, by omega, rfl, H⟩
        case round =>
          clear H
          obtain ⟨j, rfl, hj, hk, H⟩ := hrel
          rcases Nat.lt_or_ge j 1024 with hj24 | hj24
          · have hvj := hv j hj24
            have cv : wr.cell? ⟨q, j, none⟩ = some (.int .u32 ((nth m j : Nat) : Int)) := by
              rw [cells_of (H.out.ok 0 _ rfl) j, ← hvj]
              have := nums_nth .u32 v j (by omega)
              simpa using this
            rcases Nat.lt_or_ge j m.length with hjm | hjm
            · obtain ⟨bi, oi, rfl, hbi, hci⟩ := HAm.out (by omega)
              have ci : wr.cell? ⟨bi, oi + j, none⟩ = some (.int .u32 ((nth m j : Nat) : Int)) := by
                rw [← hci j hjm]; exact World.cell?_of_block (w := w) (H.out.upd.block bi hbi (by simp))
              rw [HTK.out] at hjm
              generalize nth m j = z at cv ci
              clear hci hvj hv
              go_wp2_with (fail)
              go_roundg (1024 - (j + 1))
              case measure => omega
              case rel => exact ⟨j + 1, by go_num, by omega, rfl, H⟩
            · rw [show nth m j = 0 by unfold nth; rw [List.getD_eq_getElem?_getD, List.getElem?_eq_none hjm]; rfl] at cv
              rw [HTK.out] at hjm
              clear hvj hv
              go_wp2_with (fail)
              go_roundg (1024 - (j + 1))
              case measure => omega
              case rel => exact ⟨j + 1, by go_num, by omega, rfl, H⟩
          · clear hv
            go_wp2_with (fail)
            refine (K.out _ H.out.tz).mono ?_
            rintro e w7 ⟨rfl, hb⟩
            go_wp2_with (fail)
            go_ret
            exact ⟨rfl, HU.out _ _ (H.out.near (Upd.of_below hb))⟩
  · have N1 := E_mnew (Env.none hT) A ns c hA hs (by omega)
    replace N1 := Lib.hid N1
    have HAm := Lib.hid hA
    have HS : Hid (∀ j, nth ns j < 2 ^ 32) := Lib.hid fun j => nth_lt (fun x hx => hs x hx) (by decide) j
    clear hA hs hT
    obtain ⟨N, hN⟩ : ∃ N, N = ns.length := ⟨_, rfl⟩
    rw [← hN] at N1 hl hc h40 ⊢
    have HTK := Lib.hid hN.symm
    clear hN
    obtain ⟨m, rfl⟩ : ∃ m, m = ns := ⟨_, rfl⟩
    have h0 := Lib.hid (newL_held m)
    generalize newL m = l0 at N1 h0
    generalize w.heap.size + 2 = mb at N1
    generalize w.heap.size + 1 = b at N1
    generalize w.heap.size = d at N1 HU ⊢
    go_enter Tryd.func3, Tryd.ntmps3
    go_wp2_with (fail)
    refine N1.out.mono ?_
    rintro e w1 ⟨rfl, H'⟩
    replace H := Lib.hid H'
    clear H' N1
    go_wp2_with (fail)
    go_loopg [7, 8] 30 (fun k v7 v8 wl => ∃ (i : Nat) (l : List Nat), v7 = .int .i64 (i : Int) ∧ v8 = .int .i64 (i : Int) ∧ i ≤ 30 ∧ k = 30 - i ∧ i ≤ M ∧ Hid (HeldN 1024 l (nth m) (fun j => if j < i then some (bt j) else none)) ∧ Hid (Env w [memA mb b d l 0 0] wl))
    case atStart => exact ⟨0, l0, rfl, rfl, by omega, rfl, by omega, Lib.hid (by simpa using h0.out), H⟩
    case round =>
      clear H h0
      obtain ⟨i, l, rfl, rfl, hi, hk, him, HL, H⟩ := hrel
      rcases Nat.lt_or_ge i M with hiM | hiM
      · rcases Nat.lt_or_ge i 30 with hi30 | hi30
        · obtain ⟨bb, ob, rfl, hbb, hcb⟩ := HA2.out (by rw [← HM.out]; omega)
          have cz : wr.cell? ⟨bb, ob + i, none⟩ = some (.int .i64 (nthZ zs i)) := by
            rw [← hcb i (by rw [← HM.out]; omega)]; exact World.cell?_of_block (w := w) (H.out.upd.block bb hbb (by simp))
          obtain ⟨hm39, a, ha64, hab, hma⟩ := HBT.out i
          obtain ⟨q1, h1⟩ := held_turn HL.out (by omega) hm39
          have F1 := E_mflip H.out HT.out 0 rfl (((39 * i + bt i : Nat) : Int))
          rw [q1] at F1
          have HL2 := Lib.hid h1
          generalize flipL l (((39 * i + bt i : Nat) : Int)) = l2 at F1 HL2
          generalize bt i = y at hm39 hma F1
          rw [show (((39 * i + y : Nat) : Int)) = 39 * (i : Int) + (y : Int) by omega] at F1
          generalize nthZ zs i = z at cz hab
          have hm : (a : Int) % 39 = (y : Int) := by omega
          replace F1 := Lib.hid F1
          clear q1 h1 HL hma hcb
          go_wp2_with (fail)
          refine F1.out.mono ?_
          rintro e w2 ⟨rfl, H', u⟩
          simp only [List.set_cons_zero] at H'
          replace H := Lib.hid H'
          clear H' u cz F1
          go_wp2_with (fail)
          go_roundg (30 - (i + 1))
          case measure => omega
          case rel => exact ⟨i + 1, l2, by go_num, by go_num, by omega, rfl, by omega, HL2, H⟩
        ·
          obtain ⟨o, ho⟩ : ∃ o : Nat → Option Nat, o = fun j => if j < i then some (bt j) else none := ⟨_, rfl⟩
          have c1 : cnt o 1024 = i := by rw [ho, cnt_first]; omega
          have o39 : ∀ j x, o j = some x → x < 39 := fun j x h => by
            rw [ho] at h
            by_cases e : j < i <;> simp [e] at h
            subst h; exact (HBT.out j).1
          rw [← ho] at HL
          have WW := Lib.hid (E_mwords H.out 0 rfl HL.out HS.out o39)
          have S1 := Lib.hid fun q w1 v (h : Env w [blk q (nums .u32 v).toList 34, memA mb b d l 0 0] w1) => E_mscrub_all h HT.out 1 rfl rfl (by decide) HL.out HS.out o39
          rw [c1] at S1
          clear ho o39 c1 hk
          go_wp2_with (fail)
          refine WW.out.mono ?_
          rintro e w2 ⟨rfl, v, lv, hv, H'⟩
          replace H := Lib.hid H'
          clear H' WW
          generalize wr.heap.size = q at H ⊢
          go_wp2_with (fail)
          refine (S1.out _ _ _ H.out).mono ?_
          rintro e w3 ⟨rfl, l3, h3, H', u⟩
          replace H := Lib.hid H'
          clear H' u S1 HL
          have c0 : cnt (fun _ => none) 1024 = 0 := cnt_zero 1024 (fun _ _ => rfl)
          have S2 := Lib.hid (E_mscrub_all H.out HT.out 1 rfl rfl (by omega) h3 HS.out (fun j x h => by simp at h))
          rw [c0] at S2
          simp only [Nat.zero_add, Nat.add_zero, List.set_cons_succ, List.set_cons_zero] at S2 H
          clear c0 h3
          go_wp2_with (fail)
          refine S2.out.mono ?_
          rintro e w4 ⟨rfl, l4, h4, H', u⟩
          replace H := Lib.hid H'
          clear H' u S2 h4
          have FX := Lib.hid (E_mfixes H.out HT.out 1 rfl)
          go_wp2_with (fail)
          refine FX.out.mono ?_
          rintro e w5 ⟨rfl, rfl⟩
          clear FX
          go_wp2_with (fail)
          go_loopg [104] 1024 (fun k v104 wl => ∃ j : Nat, v104 = .int .i64 (j : Int) ∧ j ≤ 1024 ∧ k = 1024 - j ∧ Hid (Env w [blk q (nums .u32 v).toList 34, memA mb b d l4 i 0] wl))
          case atStart => exact ⟨0, rfl, by omega, rfl, H⟩
          case round =>
            clear H
            obtain ⟨j, rfl, hj, hk, H⟩ := hrel
            rcases Nat.lt_or_ge j 1024 with hj24 | hj24
            · have hvj := hv j hj24
              have cv : wr.cell? ⟨q, j, none⟩ = some (.int .u32 ((nth m j : Nat) : Int)) := by
                rw [cells_of (H.out.ok 0 _ rfl) j, ← hvj]
                have := nums_nth .u32 v j (by omega)
                simpa using this
              rcases Nat.lt_or_ge j m.length with hjm | hjm
              · obtain ⟨bi, oi, rfl, hbi, hci⟩ := HAm.out (by omega)
                have ci : wr.cell? ⟨bi, oi + j, none⟩ = some (.int .u32 ((nth m j : Nat) : Int)) := by
                  rw [← hci j hjm]; exact World.cell?_of_block (w := w) (H.out.upd.block bi hbi (by simp))
                rw [HTK.out] at hjm
                generalize nth m j = z at cv ci
                clear hci hvj hv
                go_wp2_with (fail)
                go_roundg (1024 - (j + 1))
                case measure => omega
                case rel => exact ⟨j + 1, by go_num, by omega, rfl, H⟩
              · rw [show nth m j = 0 by unfold nth; rw [List.getD_eq_getElem?_getD, List.getElem?_eq_none hjm]; rfl] at cv
                rw [HTK.out] at hjm
                clear hvj hv
                go_wp2_with (fail)
                go_roundg (1024 - (j + 1))
                case measure => omega
                case rel => exact ⟨j + 1, by go_num, by omega, rfl, H⟩
            · clear hv
              go_wp2_with (fail)
              refine (K.out _ H.out.tz).mono ?_
              rintro e w7 ⟨rfl, hb⟩
              go_wp2_with (fail)
              go_ret
              exact ⟨rfl, HU.out _ _ (H.out.near (Upd.of_below hb))⟩
      ·
        obtain ⟨o, ho⟩ : ∃ o : Nat → Option Nat, o = fun j => if j < i then some (bt j) else none := ⟨_, rfl⟩
        have c1 : cnt o 1024 = i := by rw [ho, cnt_first]; omega
        have o39 : ∀ j x, o j = some x → x < 39 := fun j x h => by
          rw [ho] at h
          by_cases e : j < i <;> simp [e] at h
          subst h; exact (HBT.out j).1
        rw [← ho] at HL
        have WW := Lib.hid (E_mwords H.out 0 rfl HL.out HS.out o39)
        have S1 := Lib.hid fun q w1 v (h : Env w [blk q (nums .u32 v).toList 34, memA mb b d l 0 0] w1) => E_mscrub_all h HT.out 1 rfl rfl (by decide) HL.out HS.out o39
        rw [c1] at S1
        clear ho o39 c1 hk
        go_wp2_with (fail)
        refine WW.out.mono ?_
        rintro e w2 ⟨rfl, v, lv, hv, H'⟩
        replace H := Lib.hid H'
        clear H' WW
        generalize wr.heap.size = q at H ⊢
        go_wp2_with (fail)
        refine (S1.out _ _ _ H.out).mono ?_
        rintro e w3 ⟨rfl, l3, h3, H', u⟩
        replace H := Lib.hid H'
        clear H' u S1 HL
        have c0 : cnt (fun _ => none) 1024 = 0 := cnt_zero 1024 (fun _ _ => rfl)
        have S2 := Lib.hid (E_mscrub_all H.out HT.out 1 rfl rfl (by omega) h3 HS.out (fun j x h => by simp at h))
        rw [c0] at S2
        simp only [Nat.zero_add, Nat.add_zero, List.set_cons_succ, List.set_cons_zero] at S2 H
        clear c0 h3
        go_wp2_with (fail)
        refine S2.out.mono ?_
        rintro e w4 ⟨rfl, l4, h4, H', u⟩
        replace H := Lib.hid H'
        clear H' u S2 h4
        have FX := Lib.hid (E_mfixes H.out HT.out 1 rfl)
        go_wp2_with (fail)
        refine FX.out.mono ?_
        rintro e w5 ⟨rfl, rfl⟩
        clear FX
        go_wp2_with (fail)
        go_loopg [104] 1024 (fun k v104 wl => ∃ j : Nat, v104 = .int .i64 (j : Int) ∧ j ≤ 1024 ∧ k = 1024 - j ∧ Hid (Env w [blk q (nums .u32 v).toList 34, memA mb b d l4 i 0] wl))
        case atStart => exact ⟨0, rfl, by omega, rfl, H⟩
        case round =>
          clear H
          obtain ⟨j, rfl, hj, hk, H⟩ := hrel
          rcases Nat.lt_or_ge j 1024 with hj24 | hj24
          · have hvj := hv j hj24
            have cv : wr.cell? ⟨q, j, none⟩ = some (.int .u32 ((nth m j : Nat) : Int)) := by
              rw [cells_of (H.out.ok 0 _ rfl) j, ← hvj]
              have := nums_nth .u32 v j (by omega)
              simpa using this
            rcases Nat.lt_or_ge j m.length with hjm | hjm
            · obtain ⟨bi, oi, rfl, hbi, hci⟩ := HAm.out (by omega)
              have ci : wr.cell? ⟨bi, oi + j, none⟩ = some (.int .u32 ((nth m j : Nat) : Int)) := by
                rw [← hci j hjm]; exact World.cell?_of_block (w := w) (H.out.upd.block bi hbi (by simp))
              rw [HTK.out] at hjm
              generalize nth m j = z at cv ci
              clear hci hvj hv
              go_wp2_with (fail)
              go_roundg (1024 - (j + 1))
              case measure => omega
              case rel => exact ⟨j + 1, by go_num, by omega, rfl, H⟩
            · rw [show nth m j = 0 by unfold nth; rw [List.getD_eq_getElem?_getD, List.getElem?_eq_none hjm]; rfl] at cv
              rw [HTK.out] at hjm
              clear hvj hv
              go_wp2_with (fail)
              go_roundg (1024 - (j + 1))
              case measure => omega
              case rel => exact ⟨j + 1, by go_num, by omega, rfl, H⟩
          · clear hv
            go_wp2_with (fail)
            refine (K.out _ H.out.tz).mono ?_
            rintro e w7 ⟨rfl, hb⟩
            go_wp2_with (fail)
            go_ret
            exact ⟨rfl, HU.out _ _ (H.out.near (Upd.of_below hb))⟩
end Go.Proofs.YtfnemolaoijbhadDoor
