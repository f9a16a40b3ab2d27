/- The document's checkpoints, in memory: read. -/
import Derived.Test.YthoaofbhppdfoaaDoorRSv2
namespace Go.Proofs.YthoaofbhppdfoaaDoor
open Go.RowKit Go.Dio
set_option linter.unusedSimpArgs false
set_option linter.unusedVariables false

theorem RHoldAt.slt {sb b d : Nat} {l : List Nat} {f a : Nat} {w : World} (h : RHoldAt sb b d l f a w) : sb < w.heap.size := lt_of_block h.cell
theorem valsL_snoc (l : List Nat) (a n : Nat) : valsL l a (n + 1) = valsL l a n ++ [(dec (nth l (a + n))).1] := by simp [valsL, List.range_succ]
theorem rwords_get {sb b d : Nat} {l : List Nat} {f a i k : Nat} {z : Int} {w : World} (h : RHoldAt sb b d (gets l (39 * k) i) (f + getsF l (39 * k) i) a w) (hz : z = (k : Int) * 39 + (i : Int)) (hk : 39 * k + i < l.length) (hi : i < 39) (hf : f < 9223372036854770000) :
    Calls Tryd.prog 24 #[.pointer (some ⟨b, 0, none⟩), .int .i64 z] w fun e w' => e = .returned (.tuple #[.int .u32 (((dec (nth l (39 * k + i))).1 : Nat) : Int), .int .i64 (((dec (nth l (39 * k + i))).2 : Nat) : Int)]) ∧ RHoldAt sb b d (gets l (39 * k) (i + 1)) (f + getsF l (39 * k) (i + 1)) a w' ∧ Upd [b, d] w w' := by
  have hg := getsF_le l (39 * k) i
  have e1 : peekL (gets l (39 * k) i) z = dec (nth l (39 * k + i)) := by
    rw [show z = ((39 * k + i : Nat) : Int) by omega, peekL, inn_of (by omega) (by rw [gets_len]; omega)]
    show dec (nth _ (39 * k + i)) = _
    rw [gets_nth _ _ _ _ (.inr (Nat.le_refl _))]
  have e2 : gets l (39 * k) (i + 1) = getL (gets l (39 * k) i) z := by rw [gets, show ((39 * k + i : Nat) : Int) = z by omega]
  have e3 : f + getsF l (39 * k) (i + 1) = f + getsF l (39 * k) i + getF (gets l (39 * k) i) z := by rw [getsF, show ((39 * k + i : Nat) : Int) = z by omega]; omega
  rw [e2, e3, ← e1]
  exact (RGet_calls _ b d _ _ z w h.row (by omega)).mono fun e w' ⟨he, hr, hu⟩ => ⟨he, h.step hr hu (by simp), hu⟩
theorem slAt_own {w : World} {base T : Nat} {v : Value} {l : List Nat} {n : Nat} (h : w.ownsRow base T 1 v n (vals .u32 l)) (hn : 0 < n) : ∃ g c, v = .slice (some ⟨g, 0, none⟩) n c ∧ base ≤ g ∧ n ≤ c ∧ SlAt w g l := by
  have hl : l.length = n := by have := h.1; rw [vals_length] at this; omega
  rcases h.2 with ⟨rfl, h0⟩ | ⟨g, cap, cur, rfl, hg, hh, hc1, hc2, _, _⟩
  · omega
  · refine ⟨g, cap, rfl, hg, hc1, lt_of_block hh, fun i hi => ?_⟩
    have := h.cells (g := g) rfl i (.int .u32 ((nth l i : Nat) : Int)) (by simp [vals, hi, nth_eq])
    rw [Addr.add_mid] at this
    rw [← this]; simp
set_option maxRecDepth 20000 in
set_option maxHeartbeats 2000000 in
/-- The document's read. -/
theorem rread_calls (sb b d : Nat) (l : List Nat) (f a k : Nat) (w : World) (h : RHoldAt sb b d l f a w) (hl : l.length = 79) (hf : f < 9223372036854770000) (hk : k ≤ 1) :
    Calls Tryd.prog 25 #[.pointer (some ⟨sb, 0, none⟩), .int .i64 (k : Int)] w fun e w' => ∃ g c, e = .returned (.tuple #[.slice (some ⟨g, 0, none⟩) 39 c, .bool (rightP l k)]) ∧ w.heap.size ≤ g ∧ 39 ≤ c ∧ SlAt w' g (valsL l (39 * k) 39) ∧ RHoldAt sb b d (gets l (39 * k) 39) (f + getsF l (39 * k) 39) a w' ∧ Upd [b, d] w w' := by
  have H0 := Lib.hid (show RHoldAt sb b d (gets l (39 * k) 0) (f + getsF l (39 * k) 0) a w from h)
  have hbl := h.row.blt
  have hdl := h.row.dlt
  have SBL := Lib.hid h.slt
  have DBL := Lib.hid h.row.tz.lt
  have HBD := Lib.hid (show b < w.heap.size ∧ d < w.heap.size from ⟨hbl, hdl⟩)
  clear h hbl hdl
  generalize hr : rightP l k = R
  have HRR := Lib.hid hr
  have HL := Lib.hid hl
  clear hr hl
  have eK : IntKind.i64.wrap (39 * (k : Int)) = 39 * (k : Int) := by rw [IntKind.wrap_i64]; omega
  go_enter Tryd.func25, Tryd.ntmps25
  go_wp2_with (fail)
  go_loopg [6, 7, 8, 9, 10] 39 (fun g v6 v7 v8 v9 v10 wl => ∃ (i : Nat) (u6 : Value) (G : Bool), u6 = v6 ∧ v7 = .bool G ∧ v8 = .int .i64 (i : Int) ∧ i ≤ 39 ∧ g = 39 - i ∧ Hid (G = goodN l (39 * k) i) ∧ Hid (wl.ownsRow w.heap.size 26 1 u6 i (vals .u32 (valsL l (39 * k) i))) ∧ Hid (RHoldAt sb b d (gets l (39 * k) i) (f + getsF l (39 * k) i) a wl) ∧ Hid (Upd [b, d] w wl))
  case atStart => exact ⟨0, _, true, rfl, rfl, rfl, by omega, rfl, Lib.hid rfl, Lib.hid (World.ownsRow_nil _ _ _ _), H0, Lib.hid (Upd.refl _ _)⟩
  case round =>
    clear H0
    obtain ⟨i, u6, G, rfl, rfl, rfl, hi, hg, HG, HO, H, U⟩ := hrel
    rcases Nat.lt_or_ge i 39 with hlt | hge
    · have di : decide ((i : Int) < 39) = true := decide_eq_true (by omega)
      have ez : IntKind.i64.wrap (39 * (k : Int) + (i : Int)) = 39 * (k : Int) + (i : Int) := by rw [IntKind.wrap_i64]; omega
      have c0 : wr.cell? ⟨sb, 0, none⟩ = some (.pointer (some ⟨b, 0, none⟩)) := by rw [cells_of H.out.cell]; rfl
      have GET := Lib.hid (rwords_get (z := 39 * (k : Int) + (i : Int)) H.out (by omega) (by rw [HL.out]; omega) hlt hf)
      have hvs := valsL_snoc l (39 * k) i
      have hgs : goodN l (39 * k) (i + 1) = (goodN l (39 * k) i && decide ((dec (nth l (39 * k + i))).2 ≠ 2)) := rfl
      rw [← HG.out] at hgs
      generalize hy : (dec (nth l (39 * k + i))).1 = y at hvs GET
      generalize hz : (dec (nth l (39 * k + i))).2 = z at hgs GET
      have HVS := Lib.hid hvs
      have HGS := Lib.hid hgs
      clear hvs hgs hy hz
      have hlow : Hid (∀ g, u6.ownBlock = some g → g ∉ [b, d]) := Lib.hid (fun g hg => by have := (HO.out.lt g hg).1; have := HBD.out; simp; omega)
      go_wp2_with (fail)
      refine GET.out.mono ?_
      rintro e w1 ⟨rfl, h', u⟩
      have H1 := Lib.hid h'
      have O1 := Lib.hid (own_updS HO.out u hlow.out)
      have U1 := Lib.hid (U.out.trans u)
      clear h' u GET H HO c0
      obtain ⟨D, hD⟩ : ∃ D : Bool, D = decide (z ≠ 2) := ⟨_, rfl⟩
      have dz : ((z : Int) != 2) = D := by rw [hD, Bool.eq_iff_iff]; simp only [bne_iff_ne, decide_eq_true_eq]; omega
      have HD := Lib.hid hD
      clear hD
      have hss : w.heap.size ≤ w1.heap.size := U1.out.size
      have O2 := Lib.hid (O1.out.alloc (.cells #[.int .u32 (y : Int)] 26))
      have U2 := Lib.hid (U1.out.alloc (.cells #[.int .u32 (y : Int)] 26))
      have H2 := Lib.hid (H1.out.upd0 ((Upd.refl [] w1).alloc (.cells #[.int .u32 (y : Int)] 26)))
      have low2 : Hid (∀ g, u6.ownBlock = some g → w.heap.size ≤ g) := Lib.hid (fun g hg => (O2.out.lt g hg).1)
      have hbd := HBD.out
      cases G
      all_goals
        go_wp2_with ((at_builtin; refine L_append _ (.tmp 32) (.tmp 34) 51 rfl (by kernel_rfl) w.heap.size 26 _ 1 4 Tryd.underlying51 infoS_w32 rfl (by omega) u6 i (vals .u32 (valsL l (39 * k) i)) rfl O2.out (some ⟨w1.heap.size, 0, none⟩) 1 1 [.int .u32 (y : Int)] rfl rfl (srcAt_newS w1 [.int .u32 (y : Int)] _) (by simp [Value.oneCell']) (by simp only [maxLen]; omega) (by omega) U2.out.size ?_))
        intro v' w' own gr at1
        have OWN : Hid (w'.ownsRow w.heap.size 26 1 v' (i + 1) (vals .u32 (valsL l (39 * k) (i + 1)))) := Lib.hid (by rw [HVS.out, vals_append]; exact own)
        obtain ⟨S, hS1, hS2⟩ : ∃ S : List Nat, (∀ g ∈ S, w.heap.size ≤ g) ∧ ∀ g, u6.ownBlock = some g → g ∈ S := ⟨u6.ownBlock.toList, fun g hg => low2.out g (by simpa using hg), fun g hg => by simp [hg]⟩
        have ug : Upd S (w1.alloc (.cells #[.int .u32 (y : Int)] 26)) w' := (Upd.refl S _).grown gr (fun g hg _ => hS2 g hg)
        have H3 := Lib.hid (H2.out.upd ug (fun hx => by have := hS1 _ hx; have := H2.out.cell; have := SBL.out; omega) (fun hx => by have := hS1 _ hx; omega) (fun hx => by have := hS1 _ hx; omega) (fun hx => by have := hS1 _ hx; have := DBL.out; omega))
        have U3 := Lib.hid (U2.out.then ug (fun x hx hlt => by have := hS1 x hx; omega))
        clear own gr at1 hS1 hS2 ug
        go_wp2_with (fail)
        go_roundg (39 - (i + 1))
        case measure => omega
        case rel => exact ⟨i + 1, v', _, rfl, rfl, by go_num, by omega, rfl, Lib.hid (by rw [HGS.out, ← HD.out]; rfl), OWN, H3, U3⟩
    · obtain rfl : i = 39 := by omega
      obtain ⟨g, c, rfl, hg1, hc, hs⟩ := slAt_own HO.out (by decide)
      have h38 : (valsL l (39 * k) 39).length = 39 := valsL_len _ _ _
      have c38 := hs.2 38 (by rw [h38]; decide)
      have c37 := hs.2 37 (by rw [h38]; decide)
      have hb : R = (G && decide (nth (valsL l (39 * k) 39) 38 = markP (nth (valsL l (39 * k) 39) 37))) := by rw [← HRR.out, HG.out]; rfl
      have HS := Lib.hid hs
      have hlt7 : nth (valsL l (39 * k) 39) 37 < 2 ^ 32 := nth_lt (valsL_lt l _ _) (by decide) 37
      generalize nth (valsL l (39 * k) 39) 38 = y38 at c38 hb
      generalize nth (valsL l (39 * k) 39) 37 = y37 at c37 hb hlt7
      have n38 : ∀ z : Near [] wr, z.1.cell? ⟨g, 38, none⟩ = some (.int .u32 (y38 : Int)) := fun z => by rw [← c38]; exact World.cell?_of_block (z.2.block g hs.1 (by simp))
      have n37 : ∀ z : Near [] wr, z.1.cell? ⟨g, 37, none⟩ = some (.int .u32 (y37 : Int)) := fun z => by rw [← c37]; exact World.cell?_of_block (z.2.block g hs.1 (by simp))
      have MC := Lib.hid (fun wz => mark_calls y37 wz hlt7)
      generalize markP y37 = mk at MC hb
      have HB := Lib.hid hb
      clear hb c38 c37 hs hlt7
      obtain ⟨E, hE⟩ : ∃ E : Bool, E = decide (y38 = mk) := ⟨_, rfl⟩
      have dE : ((y38 : Int) == (mk : Int)) = E := by rw [hE, Bool.eq_iff_iff]; simp only [beq_iff_eq, decide_eq_true_eq]; omega
      have HE := Lib.hid hE
      clear hE
      cases G
      · go_wp2_with (fail)
        refine wp_region_plan (fun z => ∃ x : Near [] wr, z = x.1) [([0, 1, 2, 3, 4, 5, 6, 7, 8], 9)] [10, 11, 12, 13] (by kernel_rfl) (by kernel_rfl) (by kernel_rfl) (by kernel_rfl) (fun _ d _ _ _ h => by cases d <;> exact h) ⟨⟨(wr).drew, (Upd.refl _ _).drew⟩, rfl⟩ ?_
        refine plan_next ?_
        simp only [opsAt, List.map_cons, List.map_nil, List.getElem?_toArray, List.getElem?_cons_zero, List.getElem?_cons_succ, Option.getD_some]
        repeat (go_big_quiet_step (fail))
        refine wpQuiet_nil ?_
        refine plan_one rfl ?_
        go_wp2_with fail
        refine plan_same ⟨⟨_, ((Upd.refl [] wr).drew)⟩, rfl⟩ ?_
        refine plan_last ?_
        simp only [opsAt, List.map_cons, List.map_nil, List.getElem?_toArray, List.getElem?_cons_zero, List.getElem?_cons_succ, Option.getD_some]
        repeat (go_big_quiet_step (fail))
        refine wpQuiet_nil ?_
        unfold planEnd
        go_wp2_with fail
        go_ret2
        exact ⟨g, c, by rw [HB.out]; rfl, hg1, hc, HS.out.upd (Upd.refl [] wr).drew (by simp), H.out.upd0 (Upd.refl _ _).drew, U.out.drew⟩
      · go_wp2_with (fail)
        refine wp_region_plan (fun z => ∃ x : Near [] wr, z = x.1) [([0, 1, 2, 3, 4, 5, 6, 7, 8], 9)] [10, 11, 12, 13] (by kernel_rfl) (by kernel_rfl) (by kernel_rfl) (by kernel_rfl) (fun _ d _ _ _ h => by cases d <;> exact h) ⟨⟨(wr).drew, (Upd.refl _ _).drew⟩, rfl⟩ ?_
        refine plan_next ?_
        simp only [opsAt, List.map_cons, List.map_nil, List.getElem?_toArray, List.getElem?_cons_zero, List.getElem?_cons_succ, Option.getD_some]
        repeat (go_big_quiet_step (fail))
        refine wpQuiet_nil ?_
        refine plan_one rfl ?_
        go_wp2_with fail
        refine (MC.out _).mono ?_
        rintro e w1 ⟨rfl, rfl⟩
        go_wp2_with (fail)
        refine plan_same ⟨⟨_, ((Upd.refl [] wr).drew)⟩, rfl⟩ ?_
        refine plan_last ?_
        simp only [opsAt, List.map_cons, List.map_nil, List.getElem?_toArray, List.getElem?_cons_zero, List.getElem?_cons_succ, Option.getD_some]
        repeat (go_big_quiet_step (fail))
        refine wpQuiet_nil ?_
        unfold planEnd
        go_wp2_with fail
        go_ret2
        exact ⟨g, c, by rw [HB.out, ← HE.out]; rfl, hg1, hc, HS.out.upd (Upd.refl [] wr).drew (by simp), H.out.upd0 (Upd.refl _ _).drew, U.out.drew⟩
end Go.Proofs.YthoaofbhppdfoaaDoor
