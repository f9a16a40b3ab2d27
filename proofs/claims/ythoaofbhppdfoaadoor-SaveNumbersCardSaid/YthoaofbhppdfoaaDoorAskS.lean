/- Asks of checkpoints: two numbers, a place, registers, CSRs; slices of them. -/
import Derived.Test.YthoaofbhppdfoaaDoorRows3
import Derived.Test.YthoaofbhppdfoaaDoorArr
import Derived.Test.YthoaofbhppdfoaaDoorApp
import Derived.Test.YthoaofbhppdfoaaDoorSvM
namespace Go.Proofs.YthoaofbhppdfoaaDoor
open Go.ChangeShapes Go.WideShapes Go.ChangeAt Go.RowKit Go.Dio
set_option linter.unusedSimpArgs false

structure AskS where
  kind : Int
  n : Int
  pc : Nat
  regs : List Nat
  csrs : List Nat
def AskS.cells (a : AskS) : List Value := [.int .i64 a.kind, .int .i64 a.n, .int .u32 (a.pc : Int)] ++ (vals .u32 a.regs ++ vals .u32 a.csrs)
structure AskS.Ok (a : AskS) : Prop where
  kind : -9223372036854775808 ≤ a.kind ∧ a.kind ≤ 9223372036854775807
  n : -9223372036854775808 ≤ a.n ∧ a.n ≤ 9223372036854775807
  pc : a.pc < 2 ^ 32
  lr : a.regs.length = 32
  lc : a.csrs.length = 5
  br : ∀ x ∈ a.regs, x < 2 ^ 32
  bc : ∀ x ∈ a.csrs, x < 2 ^ 32
def AskS.zero : AskS := ⟨0, 0, 0, List.replicate 32 0, List.replicate 5 0⟩
theorem AskS.zero_ok : AskS.zero.Ok := ⟨by decide, by decide, by decide, rfl, rfl, by decide, by decide⟩
instance : Inhabited AskS := ⟨AskS.zero⟩
def askSN (l : List AskS) (k : Nat) : AskS := l.getD k default
def AsksSAt (w : World) (A : Option Addr) (l : List AskS) : Prop :=
  0 < l.length → ∃ b o, A = some ⟨b, o, none⟩ ∧ b < w.heap.size ∧ ∀ k, k < l.length → w.rangeAt b (o + k * 40) (askSN l k).cells
theorem AsksSAt.of_upd {w w' : World} {A : Option Addr} {l : List AskS} (h : AsksSAt w A l) (hu : Upd [] w w') : AsksSAt w' A l := fun h0 => by
  obtain ⟨b, o, hA, hb, hc⟩ := h h0
  exact ⟨b, o, hA, Nat.lt_of_lt_of_le hb hu.size, fun k hk j v hv => by rw [← hc k hk j v hv]; exact World.cell?_of_block (w := w) (hu.block b hb (by simp))⟩
def AsksSOk (l : List AskS) : Prop := ∀ k, (askSN l k).Ok
theorem AskS.cells_len {a : AskS} (h : a.Ok) : a.cells.length = 40 := by simp [AskS.cells, vals, h.lr, h.lc]

theorem askS_of {H : Type} {enc : TypeId × Value → H} {W : World} {cs : List Value} {y : DataW H × List MemPlace} {n : Nat} (hcl : cs.length = 40)
    (h : DataW.trod enc Tryd.prog W 0 (fun _ => true) true n 30 cs = some y) : ∃ x : AskS, x.Ok ∧ cs = x.cells := by
  obtain ⟨xs, n, rfl, hx, hl, hn, hg⟩ := DataW.trod_struct Tryd.underlying30 h
  have hn5 : xs.length = 5 := hn
  have k0 : Tryd.prog.cellsOf 3 = 1 := by kernel_rfl
  have k1 : Tryd.prog.cellsOf 26 = 1 := by kernel_rfl
  have k2 : Tryd.prog.cellsOf 27 = 32 := by kernel_rfl
  have k3 : Tryd.prog.cellsOf 28 = 5 := by kernel_rfl
  have g0 : DataW.trod enc Tryd.prog W 0 (fun _ => true) true n 3 ((cs.drop 0).take (Tryd.prog.cellsOf 3)) = xs[0]? := hg 0 _ rfl
  have g1 : DataW.trod enc Tryd.prog W 0 (fun _ => true) true n 3 ((cs.drop 1).take (Tryd.prog.cellsOf 3)) = xs[1]? := hg 1 _ rfl
  have g2 : DataW.trod enc Tryd.prog W 0 (fun _ => true) true n 26 ((cs.drop 2).take (Tryd.prog.cellsOf 26)) = xs[2]? := hg 2 _ rfl
  have g3 : DataW.trod enc Tryd.prog W 0 (fun _ => true) true n 27 ((cs.drop 3).take (Tryd.prog.cellsOf 27)) = xs[3]? := hg 3 _ rfl
  have g4 : DataW.trod enc Tryd.prog W 0 (fun _ => true) true n 28 ((cs.drop 35).take (Tryd.prog.cellsOf 28)) = xs[4]? := hg 4 _ rfl
  rw [k0] at g0 g1
  rw [k1] at g2
  rw [k2] at g3
  rw [k3] at g4
  have f0 : (cs.drop 0).take 1 = [cs[0]'(by omega)] := by rw [List.drop_eq_getElem_cons (by omega)]; rfl
  have f1 : (cs.drop 1).take 1 = [cs[1]'(by omega)] := by rw [List.drop_eq_getElem_cons (by omega)]; rfl
  have f2 : (cs.drop 2).take 1 = [cs[2]'(by omega)] := by rw [List.drop_eq_getElem_cons (by omega)]; rfl
  rw [f0, List.getElem?_eq_getElem (by rw [hn5]; decide)] at g0
  rw [f1, List.getElem?_eq_getElem (by rw [hn5]; decide)] at g1
  rw [f2, List.getElem?_eq_getElem (by rw [hn5]; decide)] at g2
  rw [List.getElem?_eq_getElem (by rw [hn5]; decide)] at g3 g4
  obtain ⟨z0, e0, _, w0⟩ := DataW.trod_int Tryd.underlying3 g0
  obtain ⟨z1, e1, _, w1⟩ := DataW.trod_int Tryd.underlying3 g1
  obtain ⟨z2, e2, _, w2⟩ := DataW.trod_int Tryd.underlying26 g2
  obtain ⟨m2, rfl, b2⟩ := fr.u32_nat w2
  obtain ⟨l3, e3, n3, b3⟩ := fr.open_arr rfl Tryd.underlying27 Tryd.underlying26 k1 k2 g3
  obtain ⟨l4, e4, n4, b4⟩ := fr.open_arr rfl Tryd.underlying28 Tryd.underlying26 k1 k3 g4
  refine ⟨⟨z0, z1, m2, l3, l4⟩, ⟨fr.i64_wf w0, fr.i64_wf w1, b2, n3, n4, fun x hx => fr.lt32 (b3 x hx), fun x hx => fr.lt32 (b4 x hx)⟩, ?_⟩
  have q : cs = cs.take 1 ++ ((cs.drop 1).take 1 ++ ((cs.drop 2).take 1 ++ ((cs.drop 3).take 32 ++ (cs.drop 35).take 5))) := by
    have a4 : (cs.drop 35).take 5 = cs.drop 35 := List.take_of_length_le (by rw [List.length_drop, hcl]; decide)
    have a3 : (cs.drop 3).take 32 ++ cs.drop 35 = cs.drop 3 := by
      have := List.take_append_drop 32 (cs.drop 3)
      rwa [List.drop_drop] at this
    have a2 : (cs.drop 2).take 1 ++ cs.drop 3 = cs.drop 2 := by
      have := List.take_append_drop 1 (cs.drop 2)
      rwa [List.drop_drop] at this
    have a1 : (cs.drop 1).take 1 ++ cs.drop 2 = cs.drop 1 := by
      have := List.take_append_drop 1 (cs.drop 1)
      rwa [List.drop_drop] at this
    rw [a4, a3, a2, a1, List.take_append_drop]
  have h0 : cs.take 1 = [.int .i64 z0] := by rw [← e0, ← f0]; rfl
  rw [q, h0, f1, e1, f2, e2, e3, e4]
  simp [AskS.cells, vals]
theorem asksS_open {H : Type} {enc : TypeId × Value → H} {W : World} {a : Option Addr} {len cap : Nat} {d : DataW H} {ps : List MemPlace}
    (h : DataW.Trod enc Tryd.prog W 0 (fun _ => true) true 23 (.slice a len cap) d ps) :
    ∃ l : List AskS, AsksSAt W a l ∧ l.length = len ∧ (AsksSOk l ∧ cap ≤ 9223372036854775807) ∧ len ≤ cap ∧ len + 1 ≤ Rows.uptoBulk d := by
  obtain ⟨h1, h2, h3, h4⟩ := fr.open_rows (C := 40) Tryd.underlying23 (by kernel_rfl) (by decide) h
  rcases Nat.eq_zero_or_pos len with h0 | h0
  · exact ⟨[], fun h => absurd h (by simp), by simp [h0], ⟨fun _ => AskS.zero_ok, h2⟩, h1, h3⟩
  · obtain ⟨b, o, rfl, hb, hc⟩ := h4 h0
    have each : ∀ i, ∃ x : AskS, x.Ok ∧ (i < len → W.rangeAt b (o + i * 40) x.cells) := fun i => by
      by_cases hi : i < len
      · obtain ⟨cs, y, n, hl, hr, ht⟩ := hc i hi
        obtain ⟨x, hx, rfl⟩ := askS_of hl ht
        exact ⟨x, hx, fun _ => hr⟩
      · exact ⟨AskS.zero, AskS.zero_ok, fun h => absurd h hi⟩
    let g : Nat → AskS := fun i => (each i).choose
    have hg := fun i => (each i).choose_spec
    refine ⟨(List.range len).map g, fun _ => ⟨b, o, rfl, hb, fun k hk => ?_⟩, by simp, ⟨fun k => ?_, h2⟩, h1, h3⟩
    · simp only [List.length_map, List.length_range] at hk
      have e : askSN ((List.range len).map g) k = g k := by simp [askSN, List.getD, hk]
      rw [e]; exact (hg k).2 hk
    · by_cases hk : k < len
      · have e : askSN ((List.range len).map g) k = g k := by simp [askSN, List.getD, hk]
        rw [e]; exact (hg k).1
      · have e : askSN ((List.range len).map g) k = default := by simp [askSN, List.getD, hk]
        rw [e]; exact AskS.zero_ok
theorem askS_in {H : Type} {enc : TypeId × Value → H} {W : World} {v : Value} {d : DataW H} {ps : List MemPlace} (hv : Value.okWide Tryd.prog W .any 0 30 v)
    (h : DataW.Trod enc Tryd.prog W 0 (fun _ => true) true 30 v d ps) : ∃ x : AskS, v = .agg x.cells.toArray ∧ x.Ok := by
  obtain ⟨cs, rfl⟩ := fr.agg_of Tryd.underlying30 rfl hv
  obtain ⟨fuel, hf⟩ := h
  have hcl : cs.toList.length = 40 := by
    obtain ⟨xs, n, rfl, hx, hl, hn, hg⟩ := DataW.trod_struct Tryd.underlying30 hf
    have hC : Tryd.prog.cellsOf 30 = 40 := by kernel_rfl
    rw [hC] at hl
    exact hl
  obtain ⟨x, hx, e⟩ := askS_of hcl hf
  exact ⟨x, by rw [← e], hx⟩
end Go.Proofs.YthoaofbhppdfoaaDoor
