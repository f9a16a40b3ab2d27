/- A slice of structs of one-cell fields that came in: its cells. -/
import Derived.Test.YthoaofbhppdfoaaDoorInts
import Derived.Deep.Slices
import Derived.Deep.Fields
import Derived.ChangeSame
namespace Go.Proofs.YthoaofbhppdfoaaDoor.fr
open Go.ChangeShapes Go.WideShapes Go.ChangeAt Go.RowKit Go.Dio

theorem bulk_len {H : Type} (l : List (DataW H)) : l.length ≤ Rows.uptoBulkAll l := by
  induction l with
  | nil => simp [Rows.uptoBulkAll]
  | cons x r ih =>
    have : 1 ≤ Rows.uptoBulk x := by
      cases x with
      | lit l => cases l <;> simp [Rows.uptoBulk]
      | _ => simp [Rows.uptoBulk]
    simp only [Rows.uptoBulkAll, List.length_cons]; omega

theorem open_structs {H : Type} {enc : TypeId × Value → H} {P : Program} {t e : TypeId} {fs : Array Field} {W : World} {a : Option Addr} {len cap : Nat} {d : DataW H} {ps : List MemPlace} (ht : P.underlying t = some (.slice e)) (he : P.underlying e = some (.struct fs))
    (hone : ∀ (j : Nat) (f : Field), fs[j]? = some f → f.offset = j ∧ P.cellsOf f.type = 1) (hC : P.cellsOf e = fs.size) (hpos : 0 < fs.size)
    (h : DataW.Trod enc P W 0 (fun _ => true) true t (.slice a len cap) d ps) :
    len ≤ cap ∧ cap ≤ 9223372036854775807 ∧ len + 1 ≤ Rows.uptoBulk d ∧
    (0 < len → ∃ b o, a = some ⟨b, o, none⟩ ∧ b < W.heap.size ∧ ∀ i, i < len → ∀ (j : Nat) (f : Field), fs[j]? = some f →
      ∃ (v : Value) (y : DataW H × List MemPlace) (n : Nat), W.cell? ⟨b, o + (i * fs.size + j), none⟩ = some v ∧ DataW.trod enc P W 0 (fun _ => true) true n f.type [v] = some y) := by
  obtain ⟨fuel, hf⟩ := h
  rcases DataW.trod_slice ht hf with ⟨hcs, hx⟩ | ⟨x, l, c, elems, rest, n, _, hcs, hx, _, hl, hm, hlen, hel, _, _⟩
  · simp [Value.cells] at hcs
    obtain ⟨rfl, rfl, rfl⟩ := hcs
    obtain rfl : d = .nil := congrArg Prod.fst hx
    exact ⟨by omega, by omega, by simp [Rows.uptoBulk], fun h => absurd h (by omega)⟩
  · simp [Value.cells] at hcs
    obtain ⟨rfl, rfl, rfl⟩ := hcs
    obtain rfl : d = .slice (elems.map (·.1)) (rest.map (·.1)) := congrArg Prod.fst hx
    refine ⟨hl, by simpa [maxLen] using hm, ?_, fun h0 => ?_⟩
    · have := bulk_len (elems.map (·.1))
      rw [List.length_map] at this
      simp only [Rows.uptoBulk]
      omega
    · have cell : ∀ i, i < len → ∀ (j : Nat) (f : Field), fs[j]? = some f →
          ∃ (v : Value) (y : DataW H × List MemPlace) (n : Nat), W.cell? ((x.add (i * fs.size)).add j) = some v ∧ DataW.trod enc P W 0 (fun _ => true) true n f.type [v] = some y := fun i hi j f hj => by
        have h1 := hel i hi
        rw [hC] at h1
        have h2 : elems[i]? = some (elems[i]'(by omega)) := List.getElem?_eq_getElem (by omega)
        rw [h2] at h1
        obtain ⟨cs, hc, h3⟩ := Option.bind_eq_some_iff.1 h1
        obtain ⟨ys, m, _, _, hlc, hly, hg⟩ := DataW.trod_struct he h3
        obtain ⟨_, hcl, hat⟩ := World.cells?_some hc
        obtain ⟨ho, hk⟩ := hone j f hj
        have hjl : j < fs.size := (Array.getElem?_eq_some_iff.1 hj).1
        have h4 := hg j f hj
        have hjc : j < cs.length := by omega
        have hone' : (cs.drop j).take 1 = [cs[j]] := by rw [List.drop_eq_getElem_cons hjc]; rfl
        rw [ho, hk, hone', List.getElem?_eq_getElem (by omega)] at h4
        exact ⟨cs[j], _, m, by rw [hat j hjl]; exact List.getElem?_eq_getElem hjc, h4⟩
      obtain ⟨b, o, s⟩ := x
      obtain ⟨f0, hf0⟩ : ∃ f, fs[0]? = some f := ⟨fs[0], Array.getElem?_eq_getElem hpos⟩
      obtain ⟨v0, y0, n0, hv0, _⟩ := cell 0 h0 0 f0 hf0
      have hspot : s = none := by simpa [Addr.add] using World.cell?_spot hv0
      subst hspot
      refine ⟨b, o, rfl, by simpa [Addr.add] using cell_lt hv0, fun i hi j f hj => ?_⟩
      obtain ⟨v, y, m, hv, hy⟩ := cell i hi j f hj
      refine ⟨v, y, m, ?_, hy⟩
      rw [Addr.add_mid, Addr.add_mid] at hv
      rw [← hv, Nat.add_assoc]
end Go.Proofs.YthoaofbhppdfoaaDoor.fr
