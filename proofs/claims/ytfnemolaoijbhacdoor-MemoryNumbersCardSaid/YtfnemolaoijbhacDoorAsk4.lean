/- Asks of four numbers each; slices of them. -/
import Derived.Test.YtfnemolaoijbhacDoorAsk
namespace Go.Proofs.YtfnemolaoijbhacDoor
open Go.ChangeShapes Go.WideShapes Go.ChangeAt Go.RowKit Go.Dio
set_option linter.unusedSimpArgs false

structure Ask4V where
  kind : Int
  n : Int
  u : Nat
  v : Nat
def Ask4V.cells (a : Ask4V) : List Value := [.int .i64 a.kind, .int .i64 a.n, .int .u32 (a.u : Int), .int .u32 (a.v : Int)]
instance : Inhabited Ask4V := ⟨⟨0, 0, 0, 0⟩⟩
def ask4N (l : List Ask4V) (k : Nat) : Ask4V := l.getD k default
def Asks4At (w : World) (A : Option Addr) (l : List Ask4V) : Prop :=
  0 < l.length → ∃ b o, A = some ⟨b, o, none⟩ ∧ b < w.heap.size ∧ ∀ k, k < l.length → w.rangeAt b (o + k * 4) (ask4N l k).cells
theorem Asks4At.of_upd {w w' : World} {A : Option Addr} {l : List Ask4V} (h : Asks4At w A l) (hu : Upd [] w w') : Asks4At w' A l := fun h0 => by
  obtain ⟨b, o, hA, hb, hc⟩ := h h0
  exact ⟨b, o, hA, Nat.lt_of_lt_of_le hb hu.size, fun k hk j v hv => by rw [← hc k hk j v hv]; exact World.cell?_of_block (w := w) (hu.block b hb (by simp))⟩

def ask4Vals (l : List Ask4V) : List Value := l.flatMap Ask4V.cells
theorem ask4Vals_len : ∀ l : List Ask4V, (ask4Vals l).length = l.length * 4
  | [] => rfl
  | a :: l => by
    have := ask4Vals_len l
    simp only [ask4Vals, List.flatMap_cons, List.length_append, List.length_cons] at this ⊢
    rw [this]; simp [Ask4V.cells]; omega
theorem ask4Vals_at : ∀ (l : List Ask4V) (k j : Nat) (v : Value), k < l.length → (ask4N l k).cells[j]? = some v → (ask4Vals l)[k * 4 + j]? = some v
  | [], _, _, _, h, _ => by simp at h
  | a :: l, 0, j, v, _, h => by
    have hj : j < 4 := (List.getElem?_eq_some_iff.1 h).1
    simp only [ask4Vals, List.flatMap_cons, Nat.zero_mul, Nat.zero_add]
    rw [List.getElem?_append_left (by simpa [Ask4V.cells] using hj)]
    exact h
  | a :: l, k + 1, j, v, hk, h => by
    have ih := ask4Vals_at l k j v (by simpa using hk) (by simpa [ask4N] using h)
    simp only [ask4Vals, List.flatMap_cons] at ih ⊢
    rw [List.getElem?_append_right (by simp [Ask4V.cells]; omega)]
    have e : (k + 1) * 4 + j - a.cells.length = k * 4 + j := by simp [Ask4V.cells]; omega
    rw [e]; exact ih
theorem asks4_of_own {w : World} {base e : Nat} {v : Value} {n : Nat} {l : List Ask4V} (h : w.ownsRow base e 4 v n (ask4Vals l)) :
    ∃ A cap, v = .slice A l.length cap ∧ n = l.length ∧ Asks4At w A l := by
  have hn : n = l.length := by have := h.1; rw [ask4Vals_len] at this; omega
  rcases h.2 with ⟨rfl, h0⟩ | ⟨g, cap, cur, rfl, hg, hh, hc1, hc2, _, _⟩
  · exact ⟨none, 0, by rw [← hn, h0], hn, fun h1 => by omega⟩
  · refine ⟨some ⟨g, 0, none⟩, cap, by rw [hn], hn, fun _ => ⟨g, 0, rfl, (h.lt g rfl).2, fun k hk j v hv => ?_⟩⟩
    have := h.cells (g := g) rfl (k * 4 + j) v (ask4Vals_at l k j v hk hv)
    rw [Addr.add_mid] at this
    rw [← this]
    simp
theorem ask4Vals_snoc (l : List Ask4V) (a : Ask4V) : ask4Vals (l ++ [a]) = ask4Vals l ++ a.cells := by simp [ask4Vals]

/-- Its numbers are of their kinds. -/
def Ask4V.Ok (a : Ask4V) : Prop := a.u < 2 ^ 32 ∧ a.v < 2 ^ 32 ∧ (-9223372036854775808 ≤ a.n ∧ a.n ≤ 9223372036854775807) ∧ -9223372036854775808 ≤ a.kind ∧ a.kind ≤ 9223372036854775807
theorem Ask4V.ok0 : (default : Ask4V).Ok := by unfold Ask4V.Ok; decide
def Asks4Ok (l : List Ask4V) : Prop := ∀ k, (ask4N l k).Ok
theorem Asks4Ok.nil_ : Asks4Ok [] := fun _ => Ask4V.ok0
theorem Asks4Ok.snoc {l : List Ask4V} {a : Ask4V} (h : Asks4Ok l) (ha : a.Ok) : Asks4Ok (l ++ [a]) := fun j => by
  rcases Nat.lt_trichotomy j l.length with hj | hj | hj
  · have := h j
    simp only [ask4N, List.getD, List.getElem?_append_left hj] at this ⊢
    exact this
  · subst hj; simpa [ask4N] using ha
  · have e : ask4N (l ++ [a]) j = default := by simp [ask4N, List.getD, List.getElem?_eq_none (show (l ++ [a]).length ≤ j by simp; omega)]
    rw [e]; exact Ask4V.ok0

theorem asks4_in {H : Type} {enc : TypeId × Value → H} {P : Program} {W : World} {t e : TypeId} {f0 f1 f2 f3 : Field} (ht : P.underlying t = some (.slice e)) (he : P.underlying e = some (.struct #[f0, f1, f2, f3]))
    (o0 : f0.offset = 0) (o1 : f1.offset = 1) (o2 : f2.offset = 2) (o3 : f3.offset = 3) (c0 : P.cellsOf f0.type = 1) (c1 : P.cellsOf f1.type = 1) (c2 : P.cellsOf f2.type = 1) (c3 : P.cellsOf f3.type = 1) (ce : P.cellsOf e = 4)
    (i0 : P.underlying f0.type = some (.int .i64)) (i1 : P.underlying f1.type = some (.int .i64)) (i2 : P.underlying f2.type = some (.int .u32)) (i3 : P.underlying f3.type = some (.int .u32)) {a : Option Addr} {len cap : Nat} {d : DataW H} {ps : List MemPlace}
    (h : DataW.Trod enc P W 0 (fun _ => true) true t (.slice a len cap) d ps) :
    ∃ l : List Ask4V, Asks4At W a l ∧ l.length = len ∧ Asks4Ok l ∧ len ≤ cap ∧ cap ≤ 9223372036854775807 ∧ len + 1 ≤ Rows.uptoBulk d := by
  obtain ⟨h1, h2, h3, h4⟩ := fr.open_structs ht he (by
    intro j f hj
    match j, hj with
    | 0, hj => cases hj; exact ⟨o0, c0⟩
    | 1, hj => cases hj; exact ⟨o1, c1⟩
    | 2, hj => cases hj; exact ⟨o2, c2⟩
    | 3, hj => cases hj; exact ⟨o3, c3⟩
    | n + 4, hj => simp at hj) ce (by simp) h
  rcases Nat.eq_zero_or_pos len with h0 | h0
  · exact ⟨[], fun h => absurd h (by simp), by simp [h0], Asks4Ok.nil_, h1, h2, h3⟩
  · obtain ⟨b, o, rfl, hb, hc⟩ := h4 h0
    have each : ∀ i, ∃ x : Ask4V, x.Ok ∧ (i < len → W.rangeAt b (o + i * 4) x.cells) := fun i => by
      by_cases hi : i < len
      · obtain ⟨v0, y0, m0, c0, t0⟩ := hc i hi 0 _ rfl
        obtain ⟨v1, y1, m1, c1, t1⟩ := hc i hi 1 _ rfl
        obtain ⟨v2, y2, m2, c2, t2⟩ := hc i hi 2 _ rfl
        obtain ⟨v3, y3, m3, c3, t3⟩ := hc i hi 3 _ rfl
        obtain ⟨n0, e0, _, w0⟩ := DataW.trod_int i0 t0
        obtain ⟨n1, e1, _, w1⟩ := DataW.trod_int i1 t1
        obtain ⟨n2, e2, _, w2⟩ := DataW.trod_int i2 t2
        obtain ⟨n3, e3, _, w3⟩ := DataW.trod_int i3 t3
        obtain rfl : v0 = .int .i64 n0 := by simpa using e0
        obtain rfl : v1 = .int .i64 n1 := by simpa using e1
        obtain rfl : v2 = .int .u32 n2 := by simpa using e2
        obtain rfl : v3 = .int .u32 n3 := by simpa using e3
        obtain ⟨m, rfl, hm⟩ := fr.u32_nat w2
        obtain ⟨m', rfl, hm'⟩ := fr.u32_nat w3
        refine ⟨⟨n0, n1, m, m'⟩, ⟨hm, hm', fr.i64_wf w1, fr.i64_wf w0⟩, fun _ j v hv => ?_⟩
        match j, hv with
        | 0, hv => simp [Ask4V.cells] at hv; subst hv; simpa using c0
        | 1, hv => simp [Ask4V.cells] at hv; subst hv; simpa [Nat.add_assoc] using c1
        | 2, hv => simp [Ask4V.cells] at hv; subst hv; simpa [Nat.add_assoc] using c2
        | 3, hv => simp [Ask4V.cells] at hv; subst hv; simpa [Nat.add_assoc] using c3
        | j + 4, hv => simp [Ask4V.cells] at hv
      · exact ⟨default, Ask4V.ok0, fun h => absurd h hi⟩
    let g : Nat → Ask4V := fun i => (each i).choose
    have hg := fun i => (each i).choose_spec
    refine ⟨(List.range len).map g, fun _ => ⟨b, o, rfl, hb, fun k hk => ?_⟩, by simp, fun k => ?_, h1, h2, h3⟩
    · simp only [List.length_map, List.length_range] at hk
      have e : ask4N ((List.range len).map g) k = g k := by simp [ask4N, List.getD, hk]
      rw [e]; exact (hg k).2 hk
    · by_cases hk : k < len
      · have e : ask4N ((List.range len).map g) k = g k := by simp [ask4N, List.getD, hk]
        rw [e]; exact (hg k).1
      · have e : ask4N ((List.range len).map g) k = default := by simp [ask4N, List.getD, hk]
        rw [e]; exact Ask4V.ok0
end Go.Proofs.YtfnemolaoijbhacDoor
