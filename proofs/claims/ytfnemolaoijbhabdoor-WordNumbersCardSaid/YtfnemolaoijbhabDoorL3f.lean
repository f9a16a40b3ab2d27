/- Law 3: a slice of asks that came in. -/
import Derived.Test.YtfnemolaoijbhabDoorL3d
import Derived.Test.YtfnemolaoijbhabDoorRows2
namespace Go.Proofs.YtfnemolaoijbhabDoor
open Go.ChangeShapes Go.WideShapes Go.ChangeAt Go.RowKit Go.Dio

theorem asks_open {H : Type} {enc : TypeId × Value → H} {W : World} {a : Option Addr} {len cap : Nat} {d : DataW H} {ps : List MemPlace}
    (h : DataW.Trod enc Tryd.prog W 0 (fun _ => true) true 22 (.slice a len cap) d ps) :
    ∃ l : List AskV, AsksAt W a l ∧ l.length = len ∧ (∀ k, (askN l k).n < 2 ^ 32) ∧ len ≤ cap ∧ len + 1 ≤ Rows.uptoBulk d := by
  obtain ⟨h1, h2, h3, h4⟩ := fr.open_structs Tryd.underlying22 Tryd.underlying25 (by
    intro j f hj
    match j, hj with
    | 0, hj => cases hj; exact ⟨rfl, by kernel_rfl⟩
    | 1, hj => cases hj; exact ⟨rfl, by kernel_rfl⟩
    | 2, hj => cases hj; exact ⟨rfl, by kernel_rfl⟩
    | n + 3, hj => simp at hj) (by kernel_rfl) (by decide) h
  rcases Nat.eq_zero_or_pos len with h0 | h0
  · exact ⟨[], fun h => absurd h (by simp), by simp [h0], fun k => by simp [askN, default], h1, h3⟩
  · obtain ⟨b, o, rfl, hb, hc⟩ := h4 h0
    have each : ∀ i, ∃ x : AskV, x.n < 2 ^ 32 ∧ (i < len → W.rangeAt b (o + i * 3) x.cells) := fun i => by
      by_cases hi : i < len
      · obtain ⟨v0, y0, m0, c0, t0⟩ := hc i hi 0 _ rfl
        obtain ⟨v1, y1, m1, c1, t1⟩ := hc i hi 1 _ rfl
        obtain ⟨v2, y2, m2, c2, t2⟩ := hc i hi 2 _ rfl
        obtain ⟨n0, e0, _, _⟩ := DataW.trod_int Tryd.underlying3 t0
        obtain ⟨n1, e1, _, _⟩ := DataW.trod_int Tryd.underlying3 t1
        obtain ⟨n2, e2, _, w2⟩ := DataW.trod_int Tryd.underlying23 t2
        obtain rfl : v0 = .int .i64 n0 := by simpa using e0
        obtain rfl : v1 = .int .i64 n1 := by simpa using e1
        obtain rfl : v2 = .int .u32 n2 := by simpa using e2
        have hx : 0 ≤ n2 ∧ n2 ≤ 4294967295 := by simpa [Lit.wf, IntKind.min, IntKind.max, IntKind.signed, IntKind.bits] using w2
        refine ⟨⟨n0, n1, n2.toNat⟩, by simp only; omega, fun _ j v hv => ?_⟩
        match j, hv with
        | 0, hv => simp [AskV.cells] at hv; subst hv; simpa using c0
        | 1, hv => simp [AskV.cells] at hv; subst hv; simpa [Nat.add_assoc] using c1
        | 2, hv =>
          simp [AskV.cells] at hv
          subst hv
          rw [Int.max_eq_left hx.1]
          simpa [Nat.add_assoc] using c2
        | j + 3, hv => simp [AskV.cells] at hv
      · exact ⟨default, by decide, fun h => absurd h hi⟩
    let g : Nat → AskV := fun i => (each i).choose
    have hg := fun i => (each i).choose_spec
    refine ⟨(List.range len).map g, fun _ => ⟨b, o, rfl, hb, fun k hk => ?_⟩, by simp, fun k => ?_, h1, h3⟩
    · simp only [List.length_map, List.length_range] at hk
      have e : askN ((List.range len).map g) k = g k := by simp [askN, List.getD, hk]
      rw [e]; exact (hg k).2 hk
    · by_cases hk : k < len
      · have e : askN ((List.range len).map g) k = g k := by simp [askN, List.getD, hk]
        rw [e]; exact (hg k).1
      · have e : askN ((List.range len).map g) k = default := by simp [askN, List.getD, hk]
        rw [e]; decide
end Go.Proofs.YtfnemolaoijbhabDoor
