/- Arrays and structs that came in by value. -/
import Derived.Test.YthoaofbhppdfoaaDoorRows2
import Derived.OpenShut
namespace Go.Proofs.YthoaofbhppdfoaaDoor.fr
open Go.ChangeShapes Go.WideShapes Go.ChangeAt Go.RowKit Go.Dio

theorem agg_of {P : Program} {W : World} {t : TypeId} {v : Value} {d : TypeDesc} (ht : P.underlying t = some d) (hd : d.isRow = true) (h : Value.okWide P W .any 0 t v) : ∃ cs : Array Value, v = .agg cs := by
  unfold Value.okWide at h
  rw [ht] at h
  cases d <;> simp [TypeDesc.isRow] at hd <;> exact ⟨h.choose, h.choose_spec.1⟩
theorem bulk_mem {H : Type} {x : DataW H} : ∀ {l : List (DataW H)}, x ∈ l → Rows.uptoBulk x ≤ Rows.uptoBulkAll l
  | [], h => by simp at h
  | y :: l, h => by
    simp only [Rows.uptoBulkAll]
    rcases List.mem_cons.1 h with rfl | h
    · omega
    · have := bulk_mem h; omega
theorem bulk_agg {H : Type} {x : DataW H} {l : List (DataW H)} (h : x ∈ l) : Rows.uptoBulk x ≤ Rows.uptoBulk (.agg l) := by
  have := bulk_mem h
  simp only [Rows.uptoBulk]
  omega

/-- An array of whole numbers. -/
theorem open_arr {H : Type} {enc : TypeId × Value → H} {P : Program} {W : World} {base : Nat} {sp : Nat → Bool} {held : Bool} {fuel n : Nat} {t e : TypeId} {k : IntKind} {cs : List Value} {x : DataW H × List MemPlace} (hk : k.signed = false)
    (ht : P.underlying t = some (.array n e)) (he : P.underlying e = some (.int k)) (hc : P.cellsOf e = 1) (hC : P.cellsOf t = n) (h : DataW.trod enc P W base sp held fuel t cs = some x) :
    ∃ l : List Nat, cs = l.map (fun (m : Nat) => Value.int k (m : Int)) ∧ l.length = n ∧ ∀ m ∈ l, (Lit.int k (m : Int)).wf = true := by
  obtain ⟨xs, m, _, _, hl, hn, hg⟩ := DataW.trod_array ht h
  rw [hC] at hl
  have each : ∀ i, i < n → ∃ z : Int, cs[i]? = some (.int k z) ∧ (Lit.int k z).wf = true := fun i hi => by
    have h1 := hg i hi
    rw [hc, Nat.mul_one, List.getElem?_eq_getElem (by omega)] at h1
    obtain ⟨z, hz, _, hw⟩ := DataW.trod_int he h1
    refine ⟨z, ?_, hw⟩
    have h2 : cs.drop i = cs[i] :: cs.drop (i + 1) := List.drop_eq_getElem_cons (by omega)
    rw [h2] at hz
    simp only [List.take_succ_cons, List.take_zero, List.cons.injEq, and_true] at hz
    rw [List.getElem?_eq_getElem (by omega), hz]
  have hnn : ∀ z : Int, (Lit.int k z).wf = true → ((z.toNat : Nat) : Int) = z := fun z hw => by
    have h0 : 0 ≤ z := by
      simp only [Lit.wf, IntKind.min, hk, Bool.and_eq_true, decide_eq_true_eq] at hw
      simpa using hw.1
    exact Int.toNat_of_nonneg h0
  let g : Nat → Int := fun i => if hi : i < n then (each i hi).choose else 0
  have hg2 : ∀ i (hi : i < n), cs[i]? = some (.int k (g i)) ∧ (Lit.int k (g i)).wf = true := fun i hi => by
    simp only [g, hi, dif_pos]
    exact (each i hi).choose_spec
  refine ⟨(List.range n).map fun i => (g i).toNat, ?_, by simp, fun m hm => ?_⟩
  · refine List.ext_getElem (by simp [hl]) fun i h1 h2 => ?_
    have hi : i < n := by omega
    have h3 := (hg2 i hi).1
    rw [List.getElem?_eq_getElem h1] at h3
    simp only [List.map_map, List.getElem_map, List.getElem_range, Function.comp]
    rw [hnn _ (hg2 i hi).2]
    exact Option.some.inj h3
  · simp only [List.mem_map, List.mem_range] at hm
    obtain ⟨i, hi, rfl⟩ := hm
    rw [hnn _ (hg2 i hi).2]
    exact (hg2 i hi).2
/-- A slice, as a cell. -/
theorem open_cell_slice {H : Type} {enc : TypeId × Value → H} {P : Program} {W : World} {base : Nat} {sp : Nat → Bool} {held : Bool} {fuel : Nat} {t e : TypeId} {v : Value} {x : DataW H × List MemPlace}
    (ht : P.underlying t = some (.slice e)) (h : DataW.trod enc P W base sp held fuel t [v] = some x) : ∃ a len cap, v = .slice a len cap := by
  rcases DataW.trod_slice ht h with ⟨hcs, _⟩ | ⟨x, l, c, _, _, _, _, hcs, _⟩
  · exact ⟨none, 0, 0, by simpa using hcs⟩
  · exact ⟨some x, l, c, by simpa using hcs⟩
theorem lt32 {m : Nat} (h : (Lit.int .u32 (m : Int)).wf = true) : m < 2 ^ 32 := by
  have h : 0 ≤ (m : Int) ∧ (m : Int) ≤ 4294967295 := by simpa [Lit.wf, IntKind.min, IntKind.max, IntKind.signed, IntKind.bits] using h
  omega
theorem u32_nat {z : Int} (h : (Lit.int .u32 z).wf = true) : ∃ m : Nat, z = (m : Int) ∧ m < 2 ^ 32 := by
  have h : 0 ≤ z ∧ z ≤ 4294967295 := by simpa [Lit.wf, IntKind.min, IntKind.max, IntKind.signed, IntKind.bits] using h
  exact ⟨z.toNat, by omega, by omega⟩
theorem i64_wf {z : Int} (h : (Lit.int .i64 z).wf = true) : -9223372036854775808 ≤ z ∧ z ≤ 9223372036854775807 := by
  simpa [Lit.wf, IntKind.min, IntKind.max, IntKind.signed, IntKind.bits] using h
end Go.Proofs.YthoaofbhppdfoaaDoor.fr
