/- Slices of int. -/
import Derived.Test.YtggjmdgonjhioaaFr
namespace Go.Dio
def nthZ (l : List Int) (i : Nat) : Int := l.getD i 0
/-- A slice of int reads as a list. -/
def IntsAt (w : World) (A : Option Addr) (l : List Int) : Prop :=
  0 < l.length → ∃ b o, A = some ⟨b, o, none⟩ ∧ b < w.heap.size ∧ ∀ i, i < l.length → w.cell? ⟨b, o + i, none⟩ = some (.int .i64 (nthZ l i))
theorem IntsAt.of_upd {w w' : World} {A : Option Addr} {l : List Int} (h : IntsAt w A l) (hu : Upd [] w w') : IntsAt w' A l := fun h0 => by
  obtain ⟨b, o, hA, hb, hc⟩ := h h0
  exact ⟨b, o, hA, Nat.lt_of_lt_of_le hb hu.size, fun i hi => by rw [← hc i hi]; exact World.cell?_of_block (w := w) (hu.block b hb (by simp))⟩
end Go.Dio
namespace Go.Proofs.Ytggjmdgonjhioaa.fr
open Go.ChangeShapes Go.WideShapes Go.ChangeAt Go.RowKit Go.Dio
theorem small32 {l : List Nat} (h : ∀ x ∈ l, (Lit.int .u32 (x : Int)).wf = true) : ∀ x ∈ l, x < 2 ^ 32 := fun x hx => by
  have hx : 0 ≤ (x : Int) ∧ (x : Int) ≤ 4294967295 := by simpa [Lit.wf, IntKind.min, IntKind.max, IntKind.signed, IntKind.bits] using h x hx
  omega
/-- A slice of int that came in. -/
theorem open_ints' {H : Type} {enc : TypeId × Value → H} {P : Program} {t e : TypeId} {W : World} {a : Option Addr} {len cap : Nat} {d : DataW H} {ps : List MemPlace} (ht : P.underlying t = some (.slice e)) (he : P.underlying e = some (.int .i64)) (hc : P.cellsOf e = 1)
    (h : DataW.Trod enc P W 0 (fun _ => true) true t (.slice a len cap) d ps) :
    ∃ l : List Int, IntsAt W a l ∧ l.length = len ∧ len ≤ cap ∧ cap ≤ 9223372036854775807 ∧ (∀ x ∈ l, (Lit.int .i64 x).wf = true) ∧ len + 1 ≤ Rows.uptoBulk d := by
  obtain ⟨fuel, hf⟩ := h
  rcases open_ints ht he hc hf with ⟨hcs, hx⟩ | ⟨x, l, c, zs, hcs, _, hl, hm, hz, hx, hcell, hwz⟩
  · simp [Value.cells] at hcs
    obtain ⟨rfl, rfl, rfl⟩ := hcs
    obtain rfl : d = .nil := congrArg Prod.fst hx
    exact ⟨[], fun h => absurd h (by simp), rfl, by omega, by omega, by simp, by simp [Rows.uptoBulk]⟩
  · simp [Value.cells] at hcs
    obtain ⟨rfl, rfl, rfl⟩ := hcs
    obtain rfl : d = .slice (lits .i64 (zs.take len)) (lits .i64 (zs.drop len)) := congrArg Prod.fst hx
    have hz' : zs.length = cap := by simpa using hz
    refine ⟨zs.take len, fun h0 => ?_, by simp; omega, hl, by simpa [maxLen] using hm, fun x hx => hwz x (List.mem_of_mem_take hx), ?_⟩
    · simp only [List.length_take] at h0
      have hc0 := hcell 0 (by omega)
      obtain ⟨b, o, s⟩ := x
      have hspot : s = none := by simpa [Addr.add] using World.cell?_spot hc0
      subst hspot
      refine ⟨b, o, rfl, cell_lt hc0, fun i hi => ?_⟩
      simp only [List.length_take] at hi
      have := hcell i (by omega)
      have ea : (⟨b, o, none⟩ : Addr).add i = ⟨b, o + i, none⟩ := by
        simp only [Addr.add]
        split
        · next h0 => subst h0; rfl
        · rfl
      rw [ea] at this
      rw [this]
      have hi2 : i < zs.length := by omega
      have hi3 : i < len := by omega
      simp [nthZ, List.getD, hi2, hi3]
    · have h1 : ∀ l : List Int, Rows.uptoBulkAll (lits (H := H) .i64 l) = l.length := by
        intro l
        induction l with
        | nil => simp [lits, Rows.uptoBulkAll]
        | cons x r ih => simp only [lits, List.map_cons, Rows.uptoBulkAll, Rows.uptoBulk, List.length_cons] at ih ⊢; omega
      simp only [Rows.uptoBulk, h1, List.length_take]
      omega
end Go.Proofs.Ytggjmdgonjhioaa.fr
