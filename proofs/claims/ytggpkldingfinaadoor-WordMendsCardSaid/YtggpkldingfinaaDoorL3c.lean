/- Law 3: WordMends. -/
import Derived.Test.YtggpkldingfinaaDoorL3b
import Derived.Test.YtggpkldingfinaaDoorInts
import Derived.Deep.LoopGhost
namespace Go.Proofs.YtggpkldingfinaaDoor
open Go.RowKit Go.Dio
set_option linter.unusedSimpArgs false
set_option linter.unusedVariables false

/-- A number's code word, with one bit turned or none. -/
def wd (n : Nat) : Option Nat → Nat
  | none => enc n
  | some m => enc n ^^^ 2 ^ m
/-- The first so many words of a row are code words of these numbers, with one bit turned or none. -/
def Mends (ns l : List Nat) (g : Nat → Option Nat) (i : Nat) : Prop := ∀ j, j < i → nth l j = wd (nth ns j) (g j) ∧ ∀ m, g j = some m → m < 39
/-- How many of them have one bit turned. -/
def turns (g : Nat → Option Nat) : Nat → Nat
  | 0 => 0
  | i + 1 => turns g i + (if (g i).isSome then 1 else 0)
theorem turns_le (g : Nat → Option Nat) : ∀ i, turns g i ≤ i
  | 0 => Nat.le_refl _
  | i + 1 => by have := turns_le g i; rw [turns]; split <;> omega
theorem turns_same {g g' : Nat → Option Nat} : ∀ i, (∀ j, j < i → g j = g' j) → turns g i = turns g' i
  | 0, _ => rfl
  | i + 1, h => by rw [turns, turns, turns_same i (fun j hj => h j (by omega)), h i (by omega)]
theorem turns_none {g : Nat → Option Nat} : ∀ i, (∀ j, j < i → g j = none) → turns g i = 0
  | 0, _ => rfl
  | i + 1, h => by rw [turns, turns_none i (fun j hj => h j (by omega)), h i (by omega)]; rfl
theorem turns_off {g : Nat → Option Nat} {k : Nat} : ∀ i, k < i → turns (fun j => if j = k then none else g j) i + (if (g k).isSome then 1 else 0) = turns g i
  | 0, h => by omega
  | i + 1, h => by
    by_cases e : i = k
    · subst e
      rw [turns, turns, turns_same (g := fun j => if j = i then none else g j) (g' := g) i (fun j hj => by simp [show j ≠ i by omega])]
      simp
    · have ih := turns_off (g := g) (k := k) i (by omega)
      rw [turns, turns]
      simp only [e, if_false]
      omega
theorem Mends.put {ns l : List Nat} {g : Nat → Option Nat} {i v : Nat} {o : Option Nat} (h : Mends ns l g i) (hi : i < l.length) (hv : v = wd (nth ns i) o) (ho : ∀ m, o = some m → m < 39) : Mends ns (l.set i v) (fun j => if j = i then o else g j) (i + 1) := fun j hj => by
  by_cases e : j = i
  · subst e; simp only [if_true]; rw [nth_set_eq hi]; exact ⟨hv, ho⟩
  · simp only [e, if_false]; rw [nth_set_ne (fun h => e h.symm)]; exact h j (by omega)
theorem Mends.fixed {ns l : List Nat} {g : Nat → Option Nat} {n k : Nat} (h : Mends ns l g n) (hk : k < l.length) (hn : l.length = n) : Mends ns (l.set k (enc (nth ns k))) (fun j => if j = k then none else g j) n := fun j hj => by
  by_cases e : j = k
  · subst e; simp only [if_true]; rw [nth_set_eq hk]; exact ⟨rfl, by simp⟩
  · simp only [e, if_false]; rw [nth_set_ne (fun h => e h.symm)]; exact h j hj
theorem dec_wd {n : Nat} (hn : n < 2 ^ 32) {o : Option Nat} (ho : ∀ m, o = some m → m < 39) : dec (wd n o) = (n, if o.isSome then 1 else 0) := by
  cases o with
  | none => exact dec_enc hn
  | some m => exact dec_flip hn (ho m rfl)
theorem mend_wd {n : Nat} (hn : n < 2 ^ 32) {o : Option Nat} (ho : ∀ m, o = some m → m < 39) : (mend (wd n o)).1 = enc n := by
  cases o with
  | none => exact congrArg Prod.fst (mend_enc hn)
  | some m => exact congrArg Prod.fst (mend_flip hn (ho m rfl))

set_option maxHeartbeats 4000000 in
theorem mends3_walk (A A2 : Option Addr) (ns : List Nat) (zs : List Int) (c c2 : Nat) (w : World) (hA : NumsAt w .u32 A ns) (hA2 : IntsAt w A2 zs) (hs : ∀ x ∈ ns, x < 2 ^ 32) (hl : ns.length ≤ 9223372036854775807) (hl2 : zs.length ≤ 9223372036854775807) (hT : Tz w) :
    Calls Tryd.prog 7 #[.slice A ns.length c, .slice A2 zs.length c2] w fun e w' => e = .returned (.bool true) ∧ Below w.heap.size w w' := by
  obtain ⟨n, hn0⟩ : ∃ n, n = min ns.length 20 := ⟨_, rfl⟩
  have hn20 : n ≤ 20 := by omega
  have hnl : n ≤ ns.length := by omega
  have hmin := min2_nat .i64 (ns.length : Int) 20 (n : Int) (by omega)
  clear hn0
  have NW := Lib.hid (O_new n n w hT (by omega))
  obtain ⟨l0, hl0⟩ : ∃ l0, l0 = List.replicate n 0 := ⟨_, rfl⟩
  have len0 : l0.length = n := by subst hl0; exact List.length_replicate ..
  rw [← hl0] at NW
  have hu : ∀ b d l f w', Own w b d l f w' → Below w.heap.size w w' := fun _ _ _ _ _ h => h.upd.below
  have HU := Lib.hid hu
  have HA := Lib.hid hA
  have HA2 := Lib.hid hA2
  have HS := Lib.hid fun i => nth_lt hs (by decide) i
  have K := Lib.hid fun w' (h : Tz w') => known3_calls w' h
  clear hA hA2 hs hu hl0 hT
  generalize w.heap.size + 1 = B at NW
  generalize w.heap.size = D at NW HU ⊢
  go_enter Tryd.func7, Tryd.ntmps7
  go_wp2_with (fail)
  refine NW.out.mono ?_
  rintro e w' ⟨rfl, H⟩
  have H0 := Lib.hid H
  clear H
  go_wp2_with (fail)
  go_loopg [7, 8] n (fun g7 v7 v8 wl => ∃ (i t : Nat) (l : List Nat) (g : Nat → Option Nat), v8 = .int .i64 (i : Int) ∧ v7 = .int .i64 (t : Int) ∧ i ≤ n ∧ g7 = n - i ∧ l.length = n ∧ Hid (t = turns g i) ∧ t ≤ i ∧ Hid (Mends ns l g i) ∧ Hid (Own w B D l 0 wl))
  case atStart => exact ⟨0, 0, l0, fun _ => none, rfl, rfl, by omega, rfl, len0, rfl, by omega, fun j hj => by omega, H0.out⟩
  case round =>
    obtain ⟨i, t, l, g, rfl, rfl, hi, hg, hlen, HC, hti, HM, H⟩ := hrel
    clear H0
    rcases Nat.lt_or_ge i n with hin | hin
    · obtain ⟨ba, oa, rfl, hba, hca⟩ := HA.out (by omega)
      have hcell : ∀ w', Upd [] w w' → w'.cell? ⟨ba, oa + i, none⟩ = some (.int .u32 ((nth ns i : Nat) : Int)) := fun w' u => by rw [← hca i (by omega)]; exact World.cell?_of_block (w := w) (u.block ba hba (by simp))
      have cc := hcell wr H.out.upd
      have hv := HS.out i
      have P := Lib.hid fun w1 (h : Own w B D l 0 w1) => O_put h (i : Int) (nth ns i) hv
      have ip : inn l (i : Int) = true := inn_of (by omega) (by omega)
      rw [ip, put_at (by omega)] at P
      obtain ⟨l1, hl1⟩ : ∃ l1, l1 = l.set i (enc (nth ns i)) := ⟨_, rfl⟩
      have len1 : l1.length = n := by rw [hl1]; simpa using hlen
      have v1 : nth l1 i = enc (nth ns i) := by rw [hl1]; exact nth_set_eq (by omega)
      have M1 : Hid (Mends ns l1 (fun j => if j = i then none else g j) (i + 1)) := by
        rw [hl1]; exact HM.out.put (by omega) rfl (by simp)
      have T1 : turns (fun j => if j = i then none else g j) (i + 1) = turns g i := by
        rw [turns, turns_same (g' := g) i (fun j hj => by simp [show j ≠ i by omega])]; simp
      have HT1 := Lib.hid T1
      rw [← hl1] at P
      clear hcell T1 ip
      go_wp2_with (fail)
      refine (P.out _ H.out).mono ?_
      rintro e w' ⟨rfl, H'⟩
      replace H := Lib.hid H'
      clear H' cc P
      rcases Nat.lt_or_ge i zs.length with hz | hz
      · obtain ⟨bz, oz, rfl, hbz, hcz⟩ := HA2.out (by omega)
        have cz : w'.cell? ⟨bz, oz + i, none⟩ = some (.int .i64 (nthZ zs i)) := by rw [← hcz i (by omega)]; exact World.cell?_of_block (w := w) (H.out.upd.block bz hbz (by simp))
        clear hcz
        cases hbit : (bits BinOp.and IntKind.i64 (nthZ zs i) 1 == 1)
        · go_wp2_with (fail)
          go_roundg (n - (i + 1))
          case measure => omega
          case rel => exact ⟨i + 1, t, l1, _, by go_num, rfl, by omega, rfl, len1, by show t = _; rw [HT1.out]; exact HC.out, by omega, M1.out, H.out⟩
        · obtain ⟨m', hm1, hm⟩ := andi63 (nthZ zs i / 2)
          obtain ⟨m, hm0⟩ : ∃ m, m = m' % 39 := ⟨_, rfl⟩
          have hm39 : m < 39 := by omega
          have hmm : (m' : Int) % 39 = (m : Int) := by omega
          clear hm0
          have F := Lib.hid fun w1 (h : Own w B D l1 0 w1) => O_flip h (39 * (i : Int) + (m : Int))
          have c4 : (39 * (i : Int) + (m : Int)) = ((39 * i + m : Nat) : Int) := by omega
          obtain ⟨q1, q2⟩ := flip_at (l := l1) (c := 39 * i + m) (k := i) (m := m) (by omega) rfl hm39
          rw [← c4] at q1 q2
          rw [q1, q2, v1] at F
          have M2 : Hid (Mends ns (l1.set i (enc (nth ns i) ^^^ 2 ^ m)) (fun j => if j = i then some m else g j) (i + 1)) := by
            have h2 : Mends ns l1 g i := fun j hj => by
              have := M1.out j (by omega)
              simpa [show j ≠ i by omega] using this
            exact h2.put (by omega) rfl (fun x hx => by cases hx; exact hm39)
          have T2 : turns (fun j => if j = i then some m else g j) (i + 1) = turns g i + 1 := by
            rw [turns, turns_same (g' := g) i (fun j hj => by simp [show j ≠ i by omega])]; simp
          have HT2 := Lib.hid T2
          have len2 : (l1.set i (enc (nth ns i) ^^^ 2 ^ m)).length = n := by simpa using len1
          clear T2 c4 q1 q2
          go_wp2_with (fail)
          refine (F.out _ H.out).mono ?_
          rintro e w'' ⟨rfl, H'⟩
          replace H := Lib.hid H'
          clear H' F
          go_wp2_with (fail)
          go_roundg (n - (i + 1))
          case measure => omega
          case rel => exact ⟨i + 1, t + 1, _, _, by go_num, by go_num, by omega, rfl, len2, by show t + 1 = _; rw [HT2.out, HC.out], by omega, M2.out, H.out⟩
      · have hz2 : decide ((i : Int) < (zs.length : Int)) = false := by rw [decide_eq_false_iff_not]; omega
        go_wp2_with (fail)
        go_roundg (n - (i + 1))
        case measure => omega
        case rel => exact ⟨i + 1, t, l1, _, by go_num, rfl, by omega, rfl, len1, by show t = _; rw [HT1.out]; exact HC.out, by omega, M1.out, H.out⟩
    · obtain rfl : i = n := by omega
      have M := HM.out
      clear HM
      go_wp2_with (fail)
      go_loopg [9] 2 (fun g9 v9 wl => ∃ (k f : Nat) (l : List Nat) (g : Nat → Option Nat), v9 = .int .i64 (k : Int) ∧ k ≤ 2 ∧ g9 = 2 - k ∧ l.length = i ∧ Hid (Mends ns l g i) ∧ Hid (0 < k → ∀ j, j < i → g j = none) ∧ Hid (f + turns g i = t) ∧ f ≤ 20 ∧ Hid (Own w B D l f wl))
      case atStart => exact ⟨0, 0, l, g, rfl, by omega, rfl, hlen, M, fun h => absurd h (by omega), by show 0 + turns g i = t; rw [Nat.zero_add]; exact HC.out.symm, by omega, H.out⟩
      case round =>
        clear M H HC
        obtain ⟨k, f, l, g, rfl, hk, hgk, hlen, HM, HN, HF, hf, H⟩ := hrel
        rcases Nat.lt_or_ge k 2 with hk2 | hk2
        · go_wp2_with (fail)
          have HN0 := HN
          go_loopg [10] i (fun g10 v10 wl => ∃ (j f : Nat) (l : List Nat) (g : Nat → Option Nat), v10 = .int .i64 (j : Int) ∧ j ≤ i ∧ g10 = i - j ∧ l.length = i ∧ Hid (Mends ns l g i) ∧ Hid (∀ x, x < j → g x = none) ∧ Hid (0 < k → ∀ x, x < i → g x = none) ∧ Hid (f + turns g i = t) ∧ f ≤ 20 ∧ Hid (Own w B D l f wl))
          case atStart => exact ⟨0, f, l, g, rfl, by omega, rfl, hlen, HM.out, fun x hx => by omega, HN.out, HF.out, hf, H.out⟩
          case round =>
            clear HM HN HN0 HF H hf
            obtain ⟨j, f, l, g, rfl, hj, hgj, hlen, HM, HJ, HN, HF, hf, H⟩ := hrel
            rcases Nat.lt_or_ge j i with hji | hji
            · obtain ⟨ba, oa, rfl, hba, hca⟩ := HA.out (by omega)
              have hcc : ∀ w', Upd [] w w' → w'.cell? ⟨ba, oa + j, none⟩ = some (.int .u32 ((nth ns j : Nat) : Int)) := fun w' u => by rw [← hca j (by omega)]; exact World.cell?_of_block (w := w) (u.block ba hba (by simp))
              have HCC := Lib.hid hcc
              clear hca hcc
              have hv := HS.out j
              obtain ⟨mw, mg⟩ := HM.out j hji
              have hp : peekL l (j : Int) = (nth ns j, if (g j).isSome then 1 else 0) := by rw [peek_at (by omega), mw]; exact dec_wd hv mg
              have G := Lib.hid fun w1 (h : Own w B D l f w1) => O_get h (j : Int) (by omega)
              cases hgj2 : g j with
              | none =>
                rw [hgj2] at hp
                simp only [Option.isSome_none, Bool.false_eq_true, if_false] at hp
                have gs := get_same (l := l) (i := (j : Int)) (by rw [hp]; exact Nat.zero_ne_one)
                rw [hp, gs.1, gs.2] at G
                have HG := Lib.hid hgj2
                clear mw mg hp gs hgj2
                rcases (by omega : k = 0 ∨ k = 1) with rfl | rfl
                all_goals
                  go_wp2_with (fail)
                  refine (G.out _ H.out).mono ?_
                  rintro e w'' ⟨rfl, H'⟩
                  replace H := Lib.hid H'
                  have cc := HCC.out _ H.out.upd
                  clear H' G
                  go_wp2_with (fail)
                  go_roundg (i - (j + 1))
                  case measure => omega
                  case rel =>
                    refine ⟨j + 1, f, l, g, by go_num, by omega, rfl, hlen, HM.out, ?_, HN.out, HF.out, hf, H.out⟩
                    intro x hx
                    rcases Nat.lt_or_ge x j with h | h
                    · exact HJ.out x h
                    · obtain rfl : x = j := by omega
                      exact HG.out
              | some m =>
                have k0 : k = 0 := by
                  rcases Nat.eq_zero_or_pos k with h | h
                  · exact h
                  · rw [HN.out h j hji] at hgj2; cases hgj2
                subst k0
                rw [hgj2] at hp
                simp only [Option.isSome_some, if_true] at hp
                have hp2 : (peekL l (j : Int)).2 = 1 := by rw [hp]
                obtain ⟨j2, ej, hj2, e1, e2⟩ := getL_fixed hp2
                obtain rfl : j = j2 := by omega
                have em : (mend (nth l j)).1 = enc (nth ns j) := by rw [mw]; exact mend_wd hv mg
                rw [hp, e1, e2, em] at G
                have M2 := Lib.hid (HM.out.fixed (k := j) (by omega) hlen)
                have T2 := turns_off (g := g) i hji
                rw [hgj2] at T2
                simp only [Option.isSome_some, if_true] at T2
                have HF2 := Lib.hid (show f + 1 + turns (fun x => if x = j then none else g x) i = t by have := HF.out; omega)
                have hf2 : f + 1 ≤ 20 := by have := HF.out; omega
                have len2 : (l.set j (enc (nth ns j))).length = i := by simpa using hlen
                clear mw mg hp hp2 ej hj2 e1 e2 em T2 hgj2
                go_wp2_with (fail)
                refine (G.out _ H.out).mono ?_
                rintro e w'' ⟨rfl, H'⟩
                replace H := Lib.hid H'
                have cc := HCC.out _ H.out.upd
                clear H' G
                go_wp2_with (fail)
                go_roundg (i - (j + 1))
                case measure => omega
                case rel =>
                  refine ⟨j + 1, f + 1, _, _, by go_num, by omega, rfl, len2, M2.out, ?_, fun h => absurd h (by omega), HF2.out, hf2, H.out⟩
                  intro x hx
                  by_cases e : x = j
                  · simp [e]
                  · simp only [e, if_false]; exact HJ.out x (by omega)
            · obtain rfl : j = i := by omega
              go_wp2_with (fail)
              go_roundg (2 - (k + 1))
              case measure => omega
              case rel => exact ⟨k + 1, f, l, g, by go_num, by omega, rfl, hlen, HM.out, fun _ => HJ.out, HF.out, hf, H.out⟩
        · obtain rfl : k = 2 := by omega
          have FX := Lib.hid fun w1 (h : Own w B D l f w1) => O_fixes h
          have hft : f = t := by have := HF.out; rw [turns_none i (HN.out (by omega))] at this; omega
          subst hft
          go_wp2_with (fail)
          refine (FX.out _ H.out).mono ?_
          rintro e w' ⟨rfl, H'⟩
          replace H := Lib.hid H'
          clear H'
          go_wp2_with (fail)
          refine (K.out _ H.out.inn).mono ?_
          rintro e w'' ⟨rfl, hb⟩
          go_wp2_with (fail)
          go_ret
          exact ⟨rfl, HU.out _ _ _ _ _ (H.out.near (Upd.of_below hb))⟩
end Go.Proofs.YtggpkldingfinaaDoor
