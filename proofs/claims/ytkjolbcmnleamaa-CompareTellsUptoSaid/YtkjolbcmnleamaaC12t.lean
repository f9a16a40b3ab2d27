/- 'CompareTells': for every input of bulk at most 1048576 the law answers true and the input reads as it did. -/
import Derived.Test.YtkjolbcmnleamaaL12d
import Derived.Test.YtkjolbcmnleamaaArr
import Derived.Test.YtkjolbcmnleamaaFr
namespace Go.Proofs.Ytkjolbcmnleamaa.tells
open Go.ChangeShapes Go.WideShapes Go.ChangeAt Go.RowKit Go.Dio
set_option linter.unusedVariables false
set_option maxRecDepth 100000

theorem open_rets {H : Type} {enc : TypeId × Value → H} {W : World} {a : Option Addr} {len cap : Nat} {d : DataW H} {ps : List MemPlace}
    (h : DataW.Trod enc Try.prog W 0 (fun _ => true) true 26 (.slice a len cap) d ps) :
    ∃ l : List RetV, RetsAt W a l ∧ l.length = len ∧ len ≤ cap ∧ cap ≤ 9223372036854775807 ∧ len + 1 ≤ Rows.uptoBulk d := by
  obtain ⟨h1, h2, h3, h4⟩ := fr.open_structs Try.underlying26 Try.underlying24 (by
    intro j f hj
    match j, hj with
    | 0, hj => cases hj; exact ⟨rfl, by kernel_rfl⟩
    | 1, hj => cases hj; exact ⟨rfl, by kernel_rfl⟩
    | 2, hj => cases hj; exact ⟨rfl, by kernel_rfl⟩
    | 3, hj => cases hj; exact ⟨rfl, by kernel_rfl⟩
    | 4, hj => cases hj; exact ⟨rfl, by kernel_rfl⟩
    | 5, hj => cases hj; exact ⟨rfl, by kernel_rfl⟩
    | 6, hj => cases hj; exact ⟨rfl, by kernel_rfl⟩
    | n + 7, hj => simp at hj) (by kernel_rfl) (by decide) h
  rcases Nat.eq_zero_or_pos len with h0 | h0
  · exact ⟨[], fun h => absurd h (by simp), by simp [h0], h1, h2, h3⟩
  · obtain ⟨b, o, rfl, hb, hc⟩ := h4 h0
    have each : ∀ i, ∃ r : RetV, i < len → W.rangeAt b (o + i * 7) r.arr.toList := fun i => by
      by_cases hi : i < len
      · obtain ⟨v0, y0, n0, c0, t0⟩ := hc i hi 0 _ rfl
        obtain ⟨v1, y1, n1, c1, t1⟩ := hc i hi 1 _ rfl
        obtain ⟨v2, y2, n2, c2, t2⟩ := hc i hi 2 _ rfl
        obtain ⟨v3, y3, n3, c3, t3⟩ := hc i hi 3 _ rfl
        obtain ⟨v4, y4, n4, c4, t4⟩ := hc i hi 4 _ rfl
        obtain ⟨v5, y5, n5, c5, t5⟩ := hc i hi 5 _ rfl
        obtain ⟨v6, y6, n6, c6, t6⟩ := hc i hi 6 _ rfl
        obtain ⟨x0, e0, _, _⟩ := DataW.trod_int Try.underlying22 t0
        obtain ⟨x1, e1, _, _⟩ := DataW.trod_int Try.underlying22 t1
        obtain ⟨x2, e2, _, _⟩ := DataW.trod_int Try.underlying3 t2
        obtain ⟨x3, e3, _⟩ := DataW.trod_bool Try.underlying4 t3
        obtain ⟨x4, e4, _, _⟩ := DataW.trod_int Try.underlying22 t4
        obtain ⟨x5, e5, _, _⟩ := DataW.trod_int Try.underlying22 t5
        obtain ⟨x6, e6, _, _⟩ := DataW.trod_int Try.underlying3 t6
        simp only [List.cons.injEq, and_true] at e0 e1 e2 e3 e4 e5 e6
        subst e0 e1 e2 e3 e4 e5 e6
        refine ⟨⟨x0, x1, x2, x3, x4, x5, x6⟩, fun _ j v hv => ?_⟩
        match j, hv with
        | 0, hv => simp [RetV.arr] at hv; subst hv; simpa [Nat.add_assoc] using c0
        | 1, hv => simp [RetV.arr] at hv; subst hv; simpa [Nat.add_assoc] using c1
        | 2, hv => simp [RetV.arr] at hv; subst hv; simpa [Nat.add_assoc] using c2
        | 3, hv => simp [RetV.arr] at hv; subst hv; simpa [Nat.add_assoc] using c3
        | 4, hv => simp [RetV.arr] at hv; subst hv; simpa [Nat.add_assoc] using c4
        | 5, hv => simp [RetV.arr] at hv; subst hv; simpa [Nat.add_assoc] using c5
        | 6, hv => simp [RetV.arr] at hv; subst hv; simpa [Nat.add_assoc] using c6
        | j + 7, hv => simp [RetV.arr] at hv
      · exact ⟨⟨0, 0, 0, false, 0, 0, 0⟩, fun h => absurd h hi⟩
    let g : Nat → RetV := fun i => (each i).choose
    have hg := fun i => (each i).choose_spec
    refine ⟨(List.range len).map g, fun _ => ⟨b, o, rfl, hb, fun k hk => ?_⟩, by simp, h1, h2, h3⟩
    simp only [List.length_map, List.length_range] at hk
    have := hg k hk
    simpa using this

theorem open_state {H : Type} {enc : TypeId × Value → H} {W : World} {v : Value} {d : DataW H} {ps : List MemPlace} (hv : Value.okWide Try.prog W .any 0 32 v)
    (h : DataW.Trod enc Try.prog W 0 (fun _ => true) true 32 v d ps) : ∃ s : StV, v = .agg s.arr ∧ s.OK W ∧ s.mem.length + 1 ≤ Rows.uptoBulk d := by
  obtain ⟨cs, rfl⟩ := fr.agg_of Try.underlying32 rfl hv
  obtain ⟨fuel, hf⟩ := h
  obtain ⟨xs, n, rfl, hx, hl, hn, hg⟩ := DataW.trod_struct Try.underlying32 hf
  have hC : Try.prog.cellsOf 32 = 39 := by kernel_rfl
  rw [hC] at hl
  have hcl : cs.toList.length = 39 := hl
  have hn4 : xs.length = 4 := hn
  have k1 : Try.prog.cellsOf 22 = 1 := by kernel_rfl
  have k2 : Try.prog.cellsOf 29 = 32 := by kernel_rfl
  have k3 : Try.prog.cellsOf 30 = 5 := by kernel_rfl
  have k4 : Try.prog.cellsOf 28 = 1 := by kernel_rfl
  have g0 : DataW.trod enc Try.prog W 0 (fun _ => true) true n 22 ((cs.toList.drop 0).take (Try.prog.cellsOf 22)) = xs[0]? := hg 0 _ rfl
  have g1 : DataW.trod enc Try.prog W 0 (fun _ => true) true n 29 ((cs.toList.drop 1).take (Try.prog.cellsOf 29)) = xs[1]? := hg 1 _ rfl
  have g2 : DataW.trod enc Try.prog W 0 (fun _ => true) true n 30 ((cs.toList.drop 33).take (Try.prog.cellsOf 30)) = xs[2]? := hg 2 _ rfl
  have g3 : DataW.trod enc Try.prog W 0 (fun _ => true) true n 28 ((cs.toList.drop 38).take (Try.prog.cellsOf 28)) = xs[3]? := hg 3 _ rfl
  rw [k1] at g0
  rw [k2] at g1
  rw [k3] at g2
  rw [k4] at g3
  have f0 : (cs.toList.drop 0).take 1 = [cs.toList[0]'(by omega)] := by rw [List.drop_eq_getElem_cons (by omega)]; rfl
  have f3 : (cs.toList.drop 38).take 1 = [cs.toList[38]'(by omega)] := by rw [List.drop_eq_getElem_cons (by omega)]; rfl
  rw [f0, List.getElem?_eq_getElem (by rw [hn4]; decide)] at g0
  rw [List.getElem?_eq_getElem (by rw [hn4]; decide)] at g1 g2
  rw [f3, List.getElem?_eq_getElem (by rw [hn4]; decide)] at g3
  obtain ⟨z0, e0, _, w0⟩ := DataW.trod_int Try.underlying22 g0
  obtain ⟨m0, rfl, b0⟩ := fr.u32_nat w0
  obtain ⟨l1, e1, n1, _⟩ := fr.open_arr rfl Try.underlying29 Try.underlying22 k1 k2 g1
  obtain ⟨l2, e2, n2, _⟩ := fr.open_arr rfl Try.underlying30 Try.underlying22 k1 k3 g2
  obtain ⟨a, len, cap, e3⟩ := fr.open_cell_slice Try.underlying28 g3
  rw [e3] at g3
  obtain ⟨l3, N3, rfl, c3, c3b, _, b3⟩ := fr.open_nums (d := (xs[3]'(by rw [hn4]; decide)).1) (ps := (xs[3]'(by rw [hn4]; decide)).2) rfl Try.underlying28 Try.underlying22 (by kernel_rfl) ⟨_, g3⟩
  refine ⟨⟨m0, l1, l2, a, l3, cap⟩, ?_, ⟨n1, n2, N3, c3, c3b⟩, ?_⟩
  · congr 1
    apply Array.ext'
    have q : cs.toList = cs.toList.take 1 ++ ((cs.toList.drop 1).take 32 ++ ((cs.toList.drop 33).take 5 ++ (cs.toList.drop 38).take 1)) := by
      have a1 : (cs.toList.drop 38).take 1 = cs.toList.drop 38 := List.take_of_length_le (by rw [List.length_drop, hcl]; decide)
      have a2 : (cs.toList.drop 33).take 5 ++ cs.toList.drop 38 = cs.toList.drop 33 := by
        have := List.take_append_drop 5 (cs.toList.drop 33)
        rwa [List.drop_drop] at this
      have a3 : (cs.toList.drop 1).take 32 ++ cs.toList.drop 33 = cs.toList.drop 1 := by
        have := List.take_append_drop 32 (cs.toList.drop 1)
        rwa [List.drop_drop] at this
      rw [a1, a2, a3, List.take_append_drop]
    have h0 : cs.toList.take 1 = [.int .u32 (m0 : Int)] := by rw [← e0, ← f0]; rfl
    rw [q, h0, e1, e2, f3, e3]
    simp [StV.arr]
  · have hm : (xs[3]'(by rw [hn4]; decide)).1 ∈ xs.map (·.1) := List.mem_map.2 ⟨_, List.getElem_mem _, rfl⟩
    have := fr.bulk_agg (H := H) hm
    obtain rfl : d = .agg (xs.map (·.1)) := congrArg Prod.fst hx
    simp only at b3 ⊢
    omega

theorem contract (H : Type) (enc : TypeId × Value → H) (W : World) (base : Nat) (args : Array Value) (ds gs : List (DataW H)) (before : List MemPlace)
    (hval : ∀ (j : Nat) t v, Try.f4.params[j]? = some t → args[j]? = some v → Value.okWide Try.prog W .any base t v)
    (hW : DataW.Whole enc Try.prog Try.f4.params.toList Rows.compareTellsSpec.vars false W args.toList ds gs before) (hk : Rows.uptoSmall H (ds ++ gs) = true) :
    Calls Try.prog 4 args W fun e W' => ∃ v, e = .returned v ∧ Rows.compareTellsSpec.post enc Try.prog Try.f4 false true false false W args v W' := by
  have hW' := hW
  obtain ⟨p, q, hA0, hV, rfl, hfz, hnd⟩ := hW
  have hA : DataW.TrodAll enc Try.prog W 0 (fun _ => true) true Try.f4.params.toList args.toList ds p := hA0
  rw [Try.params4] at hA hval
  obtain ⟨v0, vs0, d0, ds0, p0, q0, hargs, rfl, rfl, h0, r0⟩ := trodAll_cons hA
  obtain ⟨v1, vs1, d1, ds1, p1, q1, rfl, rfl, rfl, h1, r1⟩ := trodAll_cons r0
  obtain ⟨v2, vs2, d2, ds2, p2, q2, rfl, rfl, rfl, h2, r2⟩ := trodAll_cons r1
  obtain ⟨v3, vs3, d3, ds3, p3, q3, rfl, rfl, rfl, h3, r3⟩ := trodAll_cons r2
  obtain ⟨v4, vs4, d4, ds4, p4, q4, rfl, rfl, rfl, h4, r4⟩ := trodAll_cons r3
  obtain ⟨v5, vs5, d5, ds5, p5, q5, rfl, rfl, rfl, h5, r5⟩ := trodAll_cons r4
  obtain ⟨v6, vs6, d6, ds6, p6, q6, rfl, rfl, rfl, h6, r6⟩ := trodAll_cons r5
  obtain ⟨rfl, rfl, rfl⟩ := trodAll_nil r6
  obtain rfl : args = #[v0, v1, v2, v3, v4, v5, v6] := by cases args; simp_all
  obtain ⟨rfl, rfl⟩ := trodVars_none hV
  obtain ⟨a0, len0, cap0, rfl⟩ := okWide_slice Try.underlying26 (hval 0 26 v0 rfl rfl)
  obtain ⟨a1, len1, cap1, rfl⟩ := okWide_slice Try.underlying26 (hval 1 26 v1 rfl rfl)
  obtain ⟨a2, len2, cap2, rfl⟩ := okWide_slice Try.underlying28 (hval 2 28 v2 rfl rfl)
  obtain ⟨a3, len3, cap3, rfl⟩ := okWide_slice Try.underlying28 (hval 3 28 v3 rfl rfl)
  obtain ⟨l0, n0, rfl, c0, m0, b0⟩ := open_rets h0
  obtain ⟨l1, n1, rfl, c1, m1, b1⟩ := open_rets h1
  obtain ⟨l2, n2, rfl, c2, m2, _, b2⟩ := fr.open_nums rfl Try.underlying28 Try.underlying22 (by kernel_rfl) h2
  obtain ⟨l3, n3, rfl, c3, m3, _, b3⟩ := fr.open_nums rfl Try.underlying28 Try.underlying22 (by kernel_rfl) h3
  obtain ⟨s, rfl, os, bs⟩ := open_state (Value.okWide_any_base (hval 4 32 v4 rfl rfl)) h4
  obtain ⟨t, rfl, ot, bt⟩ := open_state (Value.okWide_any_base (hval 5 32 v5 rfl rfl)) h5
  obtain ⟨x, rfl, rfl, rfl, wx⟩ := open_int Try.underlying3 (hval 6 3 v6 rfl rfl) h6
  have hb : Rows.uptoBulkAll ([d0, d1, d2, d3, d4, d5, DataW.lit (.int .i64 x)] ++ ([] : List (DataW H))) ≤ 1048576 := of_decide_eq_true hk
  obtain ⟨bd0, hb⟩ := fr.bulk_cons hb
  obtain ⟨bd1, hb⟩ := fr.bulk_cons hb
  obtain ⟨bd2, hb⟩ := fr.bulk_cons hb
  obtain ⟨bd3, hb⟩ := fr.bulk_cons hb
  clear hA0
  refine (tells_walk a0 a1 a2 a3 l0 l1 l2 l3 cap0 cap1 cap2 cap3 s t x W n0 n1 n2 n3 os ot (by omega) (by omega) (by omega) (by omega) (by omega) (by omega) (by omega) (by omega)).mono fun e W' ⟨he, bel⟩ => ?_
  subst he
  exact ⟨_, rfl, fr.post_true fr.laidOut (by kernel_rfl) rfl hW' bel 4 rfl Try.underlying4 rfl rfl rfl⟩

def z39 : Value := .agg #[.int .u32 0, .int .u32 0, .int .u32 0, .int .u32 0, .int .u32 0, .int .u32 0, .int .u32 0, .int .u32 0, .int .u32 0, .int .u32 0, .int .u32 0, .int .u32 0, .int .u32 0, .int .u32 0, .int .u32 0, .int .u32 0, .int .u32 0, .int .u32 0, .int .u32 0, .int .u32 0, .int .u32 0, .int .u32 0, .int .u32 0, .int .u32 0, .int .u32 0, .int .u32 0, .int .u32 0, .int .u32 0, .int .u32 0, .int .u32 0, .int .u32 0, .int .u32 0, .int .u32 0, .int .u32 0, .int .u32 0, .int .u32 0, .int .u32 0, .int .u32 0, .slice none 0 0]
def y39 {H : Type} : DataW H := .agg [.lit (.int .u32 0), .agg (List.replicate 32 (.lit (.int .u32 0))), .agg (List.replicate 5 (.lit (.int .u32 0))), .nil]
theorem lifted (os : Os) (started : os.Started) (H : Type) (enc : TypeId × Value → H) (F : Stop.Interp) :
    ReturnsInHanded {} Try.checked os 4 .any ((Rows.OpenSpec.upto Rows.compareTellsSpec).pre6 enc Try.prog Try.f4 Rows.compareTellsUptoRow.domain false) (((Rows.OpenSpec.upto Rows.compareTellsSpec).at F).post enc Try.prog Try.f4 false true false false) := by
  refine returnsInHanded_of_cond (C := Try.checked) (s := Rows.OpenSpec.upto Rows.compareTellsSpec) (k := Rows.uptoSmall) rfl fr.own started (by kernel_rfl) Try.func4
    (OpenSpec.witness (enc := enc) (C := Try.checked) (s := Rows.OpenSpec.upto Rows.compareTellsSpec) (k := Rows.uptoSmall) rfl false ⟨#[], #[.slice none 0 0, .slice none 0 0, .slice none 0 0, .slice none 0 0, z39, z39, .int .i64 0], []⟩ 8 (by kernel_rfl) (by kernel_rfl) (by kernel_rfl)
      (x := ([.nil, .nil, .nil, .nil, y39, y39, .lit (.int .i64 0)], [], [])) (by kernel_rfl) rfl (by kernel_rfl)) ?_
  intro W base args ds gs before hval hW _ hk _
  exact contract H enc W base args ds gs before hval hW hk

theorem band {a b : Bool} (h : a = true) (k : b = true) : (a && b) = true := by rw [h, k]; rfl
set_option maxHeartbeats 4000000 in
theorem facts : joinedFacts Try.pinned.checked.prog 4 Try.f4 (Rows.OpenSpec.upto Rows.compareTellsSpec).bare Rows.compareTellsUptoRow = true := by
  delta joinedFacts
  repeat' (with_reducible refine band ?_ ?_)
  all_goals as_aux_lemma => kernel_rfl
theorem proved : Rows.CompareTellsUptoSaid :=
  OpenClaim.holds_of_cond 4 Try.f4 rfl rfl rfl rfl rfl rfl rfl ⟨rfl, rfl, rfl, rfl, rfl⟩ rfl rfl rfl rfl rfl (by kernel_rfl) Try.func4 facts
    (of_decide_eq_true (by kernel_rfl)) (by unfold Func.isWrapper; first | (rw [if_pos (by decide +kernel)]; kernel_rfl) | (rw [if_neg (by decide +kernel)]; exact ⟨rfl, rfl⟩))
    (fun os started H enc _ F => lifted os started H enc F)
#print axioms proved
end Go.Proofs.Ytkjolbcmnleamaa.tells
