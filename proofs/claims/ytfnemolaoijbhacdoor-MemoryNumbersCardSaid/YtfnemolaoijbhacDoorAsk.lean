/- Asks: three numbers each; slices of them. -/
import Derived.Test.YtfnemolaoijbhacDoorApp
import Derived.Test.YtfnemolaoijbhacDoorArr
namespace Go.Proofs.YtfnemolaoijbhacDoor
open Go.ChangeShapes Go.WideShapes Go.ChangeAt Go.RowKit Go.Dio
set_option linter.unusedSimpArgs false

structure AskV where
  kind : Int
  i : Int
  n : Nat
def AskV.cells (a : AskV) : List Value := [.int .i64 a.kind, .int .i64 a.i, .int .u32 (a.n : Int)]
instance : Inhabited AskV := ⟨⟨0, 0, 0⟩⟩
def askN (l : List AskV) (k : Nat) : AskV := l.getD k default
def AsksAt (w : World) (A : Option Addr) (l : List AskV) : Prop :=
  0 < l.length → ∃ b o, A = some ⟨b, o, none⟩ ∧ b < w.heap.size ∧ ∀ k, k < l.length → w.rangeAt b (o + k * 3) (askN l k).cells
theorem AsksAt.of_upd {w w' : World} {A : Option Addr} {l : List AskV} (h : AsksAt w A l) (hu : Upd [] w w') : AsksAt w' A l := fun h0 => by
  obtain ⟨b, o, hA, hb, hc⟩ := h h0
  exact ⟨b, o, hA, Nat.lt_of_lt_of_le hb hu.size, fun k hk j v hv => by rw [← hc k hk j v hv]; exact World.cell?_of_block (w := w) (hu.block b hb (by simp))⟩

def askVals (l : List AskV) : List Value := l.flatMap AskV.cells
theorem askVals_len : ∀ l : List AskV, (askVals l).length = l.length * 3
  | [] => rfl
  | a :: l => by
    have := askVals_len l
    simp only [askVals, List.flatMap_cons, List.length_append, List.length_cons] at this ⊢
    rw [this]; simp [AskV.cells]; omega
theorem askVals_at : ∀ (l : List AskV) (k j : Nat) (v : Value), k < l.length → (askN l k).cells[j]? = some v → (askVals l)[k * 3 + j]? = some v
  | [], _, _, _, h, _ => by simp at h
  | a :: l, 0, j, v, _, h => by
    have hj : j < 3 := (List.getElem?_eq_some_iff.1 h).1
    simp only [askVals, List.flatMap_cons, Nat.zero_mul, Nat.zero_add]
    rw [List.getElem?_append_left (by simpa [AskV.cells] using hj)]
    exact h
  | a :: l, k + 1, j, v, hk, h => by
    have ih := askVals_at l k j v (by simpa using hk) (by simpa [askN] using h)
    simp only [askVals, List.flatMap_cons] at ih ⊢
    rw [List.getElem?_append_right (by simp [AskV.cells]; omega)]
    have e : (k + 1) * 3 + j - a.cells.length = k * 3 + j := by simp [AskV.cells]; omega
    rw [e]; exact ih
theorem asks_of_own {w : World} {base e : Nat} {v : Value} {n : Nat} {l : List AskV} (h : w.ownsRow base e 3 v n (askVals l)) :
    ∃ A cap, v = .slice A l.length cap ∧ n = l.length ∧ AsksAt w A l := by
  have hn : n = l.length := by have := h.1; rw [askVals_len] at this; omega
  rcases h.2 with ⟨rfl, h0⟩ | ⟨g, cap, cur, rfl, hg, hh, hc1, hc2, _, _⟩
  · exact ⟨none, 0, by rw [← hn, h0], hn, fun h1 => by omega⟩
  · refine ⟨some ⟨g, 0, none⟩, cap, by rw [hn], hn, fun _ => ⟨g, 0, rfl, (h.lt g rfl).2, fun k hk j v hv => ?_⟩⟩
    have := h.cells (g := g) rfl (k * 3 + j) v (askVals_at l k j v hk hv)
    rw [Addr.add_mid] at this
    rw [← this]
    simp
theorem askVals_snoc (l : List AskV) (a : AskV) : askVals (l ++ [a]) = askVals l ++ a.cells := by simp [askVals]

theorem srcAt_new (w : World) (cs : List Value) (t : TypeId) : SrcAt (w.alloc (.cells cs.toArray t)) (some ⟨w.heap.size, 0, none⟩) cs := fun _ =>
  ⟨w.heap.size, 0, rfl, fun j v hv => by rw [cells_of (Go.heap_alloc_last w (.cells cs.toArray t))]; simpa using hv⟩
theorem own_upd {w w' : World} {base e size n : Nat} {v : Value} {xs : List Value} {S : List Nat} (h : w.ownsRow base e size v n xs) (u : Upd S w w') (hS : ∀ g, v.ownBlock = some g → g ∉ S) : w'.ownsRow base e size v n xs := by
  obtain ⟨h1, h2⟩ := h
  refine ⟨h1, ?_⟩
  rcases h2 with h2 | ⟨g, cap, cur, hv, hg, hh, r⟩
  · exact Or.inl h2
  · exact Or.inr ⟨g, cap, cur, hv, hg, by rw [u.block g (lt_of_block hh) (hS g (by rw [hv]; rfl))]; exact hh, r⟩


/-- Its numbers are of their kinds. -/
def AskV.Ok (a : AskV) : Prop := a.n < 2 ^ 32 ∧ (-9223372036854775808 ≤ a.i ∧ a.i ≤ 9223372036854775807) ∧ -9223372036854775808 ≤ a.kind ∧ a.kind ≤ 9223372036854775807
theorem AskV.ok0 : (default : AskV).Ok := by unfold AskV.Ok; decide
def AsksOk (l : List AskV) : Prop := ∀ k, (askN l k).Ok
theorem AsksOk.nil_ : AsksOk [] := fun _ => AskV.ok0
theorem AsksOk.snoc {l : List AskV} {a : AskV} (h : AsksOk l) (ha : a.Ok) : AsksOk (l ++ [a]) := fun j => by
  rcases Nat.lt_trichotomy j l.length with hj | hj | hj
  · have := h j
    simp only [askN, List.getD, List.getElem?_append_left hj] at this ⊢
    exact this
  · subst hj; simpa [askN] using ha
  · have e : askN (l ++ [a]) j = default := by simp [askN, List.getD, List.getElem?_eq_none (show (l ++ [a]).length ≤ j by simp; omega)]
    rw [e]; exact AskV.ok0

theorem asks_in {H : Type} {enc : TypeId × Value → H} {P : Program} {W : World} {t e : TypeId} {f0 f1 f2 : Field} (ht : P.underlying t = some (.slice e)) (he : P.underlying e = some (.struct #[f0, f1, f2]))
    (o0 : f0.offset = 0) (o1 : f1.offset = 1) (o2 : f2.offset = 2) (c0 : P.cellsOf f0.type = 1) (c1 : P.cellsOf f1.type = 1) (c2 : P.cellsOf f2.type = 1) (ce : P.cellsOf e = 3)
    (i0 : P.underlying f0.type = some (.int .i64)) (i1 : P.underlying f1.type = some (.int .i64)) (i2 : P.underlying f2.type = some (.int .u32)) {a : Option Addr} {len cap : Nat} {d : DataW H} {ps : List MemPlace}
    (h : DataW.Trod enc P W 0 (fun _ => true) true t (.slice a len cap) d ps) :
    ∃ l : List AskV, AsksAt W a l ∧ l.length = len ∧ AsksOk l ∧ len ≤ cap ∧ cap ≤ 9223372036854775807 ∧ len + 1 ≤ Rows.uptoBulk d := by
  obtain ⟨h1, h2, h3, h4⟩ := fr.open_structs ht he (by
    intro j f hj
    match j, hj with
    | 0, hj => cases hj; exact ⟨o0, c0⟩
    | 1, hj => cases hj; exact ⟨o1, c1⟩
    | 2, hj => cases hj; exact ⟨o2, c2⟩
    | n + 3, hj => simp at hj) ce (by simp) h
  rcases Nat.eq_zero_or_pos len with h0 | h0
  · exact ⟨[], fun h => absurd h (by simp), by simp [h0], AsksOk.nil_, h1, h2, h3⟩
  · obtain ⟨b, o, rfl, hb, hc⟩ := h4 h0
    have each : ∀ i, ∃ x : AskV, x.Ok ∧ (i < len → W.rangeAt b (o + i * 3) x.cells) := fun i => by
      by_cases hi : i < len
      · obtain ⟨v0, y0, m0, c0, t0⟩ := hc i hi 0 _ rfl
        obtain ⟨v1, y1, m1, c1, t1⟩ := hc i hi 1 _ rfl
        obtain ⟨v2, y2, m2, c2, t2⟩ := hc i hi 2 _ rfl
        obtain ⟨n0, e0, _, w0⟩ := DataW.trod_int i0 t0
        obtain ⟨n1, e1, _, w1⟩ := DataW.trod_int i1 t1
        obtain ⟨n2, e2, _, w2⟩ := DataW.trod_int i2 t2
        obtain rfl : v0 = .int .i64 n0 := by simpa using e0
        obtain rfl : v1 = .int .i64 n1 := by simpa using e1
        obtain rfl : v2 = .int .u32 n2 := by simpa using e2
        obtain ⟨m, rfl, hm⟩ := fr.u32_nat w2
        refine ⟨⟨n0, n1, m⟩, ⟨hm, fr.i64_wf w1, fr.i64_wf w0⟩, fun _ j v hv => ?_⟩
        match j, hv with
        | 0, hv => simp [AskV.cells] at hv; subst hv; simpa using c0
        | 1, hv => simp [AskV.cells] at hv; subst hv; simpa [Nat.add_assoc] using c1
        | 2, hv => simp [AskV.cells] at hv; subst hv; simpa [Nat.add_assoc] using c2
        | j + 3, hv => simp [AskV.cells] at hv
      · exact ⟨default, AskV.ok0, fun h => absurd h hi⟩
    let g : Nat → AskV := fun i => (each i).choose
    have hg := fun i => (each i).choose_spec
    refine ⟨(List.range len).map g, fun _ => ⟨b, o, rfl, hb, fun k hk => ?_⟩, by simp, fun k => ?_, h1, h2, h3⟩
    · simp only [List.length_map, List.length_range] at hk
      have e : askN ((List.range len).map g) k = g k := by simp [askN, List.getD, hk]
      rw [e]; exact (hg k).2 hk
    · by_cases hk : k < len
      · have e : askN ((List.range len).map g) k = g k := by simp [askN, List.getD, hk]
        rw [e]; exact (hg k).1
      · have e : askN ((List.range len).map g) k = default := by simp [askN, List.getD, hk]
        rw [e]; exact AskV.ok0
end Go.Proofs.YtfnemolaoijbhacDoor
