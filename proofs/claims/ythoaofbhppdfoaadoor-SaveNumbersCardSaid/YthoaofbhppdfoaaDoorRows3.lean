/- Slices of rows as they come in: each row's cells. -/
import Derived.Test.YthoaofbhppdfoaaDoorRows2
namespace Go.Proofs.YthoaofbhppdfoaaDoor.fr
open Go.ChangeShapes Go.WideShapes Go.ChangeAt Go.RowKit Go.Dio

theorem open_rows {H : Type} {enc : TypeId × Value → H} {P : Program} {t e : TypeId} {C : Nat} {W : World} {a : Option Addr} {len cap : Nat} {d : DataW H} {ps : List MemPlace} (ht : P.underlying t = some (.slice e))
    (hC : P.cellsOf e = C) (hpos : 0 < C) (h : DataW.Trod enc P W 0 (fun _ => true) true t (.slice a len cap) d ps) :
    len ≤ cap ∧ cap ≤ 9223372036854775807 ∧ len + 1 ≤ Rows.uptoBulk d ∧
    (0 < len → ∃ b o, a = some ⟨b, o, none⟩ ∧ b < W.heap.size ∧ ∀ i, i < len → ∃ (cs : List Value) (y : DataW H × List MemPlace) (n : Nat), cs.length = C ∧ W.rangeAt b (o + i * C) cs ∧ DataW.trod enc P W 0 (fun _ => true) true n e cs = some y) := by
  obtain ⟨fuel, hf⟩ := h
  rcases DataW.trod_slice ht hf with ⟨hcs, hx⟩ | ⟨x, l, c, elems, rest, n, _, hcs, hx, _, hl, hm, hlen, hel, _, _⟩
  · simp [Value.cells] at hcs
    obtain ⟨rfl, rfl, rfl⟩ := hcs
    obtain rfl : d = .nil := congrArg Prod.fst hx
    exact ⟨by omega, by omega, by simp [Rows.uptoBulk], fun h => absurd h (by omega)⟩
  · simp [Value.cells] at hcs
    obtain ⟨rfl, rfl, rfl⟩ := hcs
    obtain rfl : d = .slice (elems.map (·.1)) (rest.map (·.1)) := congrArg Prod.fst hx
    refine ⟨hl, by simpa [maxLen] using hm, ?_, fun h0 => ?_⟩
    · have := bulk_len (elems.map (·.1))
      rw [List.length_map] at this
      simp only [Rows.uptoBulk]
      omega
    · have cell : ∀ i, i < len → ∃ (cs : List Value) (y : DataW H × List MemPlace) (n : Nat), cs.length = C ∧ (∀ j, j < C → W.cell? ((x.add (i * C)).add j) = cs[j]?) ∧ DataW.trod enc P W 0 (fun _ => true) true n e cs = some y := fun i hi => by
        have h1 := hel i hi
        rw [hC] at h1
        have h2 : elems[i]? = some (elems[i]'(by omega)) := List.getElem?_eq_getElem (by omega)
        rw [h2] at h1
        obtain ⟨cs, hc, h3⟩ := Option.bind_eq_some_iff.1 h1
        obtain ⟨_, hcl, hat⟩ := World.cells?_some hc
        exact ⟨cs, _, _, hcl, hat, h3⟩
      obtain ⟨b, o, s⟩ := x
      obtain ⟨cs0, y0, n0, hl0, hat0, _⟩ := cell 0 h0
      have hv0 : W.cell? (((⟨b, o, s⟩ : Addr).add (0 * C)).add 0) = some (cs0[0]'(by omega)) := by rw [hat0 0 hpos]; exact List.getElem?_eq_getElem (by omega)
      have hspot : s = none := by simpa [Addr.add] using World.cell?_spot hv0
      subst hspot
      refine ⟨b, o, rfl, by simpa [Addr.add] using cell_lt hv0, fun i hi => ?_⟩
      obtain ⟨cs, y, m, hl1, hat, hy⟩ := cell i hi
      refine ⟨cs, y, m, hl1, fun j v hj => ?_, hy⟩
      have hjl : j < C := by rw [← hl1]; exact (List.getElem?_eq_some_iff.1 hj).1
      have := hat j hjl
      rw [Addr.add_mid, Addr.add_mid] at this
      rw [← hj, ← this]
end Go.Proofs.YthoaofbhppdfoaaDoor.fr
