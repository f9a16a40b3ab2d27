/- Law 12: CompareTells. -/
import Derived.Test.YtgdmmhedcklkaaaL12c
import Derived.Test.YtgdmmhedcklkaaaSeg
import Derived.Test.YtgdmmhedcklkaaaCel
namespace Go.Proofs.Ytgdmmhedcklkaaa
open Go.RowKit Go.Dio
set_option linter.unusedSimpArgs false
set_option linter.unusedVariables false

def retVals (l : List RetV) : List Value := l.flatMap fun r => r.arr.toList
theorem retVals_len : ∀ l : List RetV, (retVals l).length = l.length * 7
  | [] => rfl
  | a :: l => by
    have := retVals_len l
    simp only [retVals, List.flatMap_cons, List.length_append, List.length_cons] at this ⊢
    rw [this]; simp [RetV.arr]; omega
theorem retVals_append (l m : List RetV) : retVals (l ++ m) = retVals l ++ retVals m := by simp [retVals]
theorem retVals_one (l : List RetV) : ∀ u ∈ retVals l, u.oneCell' = true := fun u hu => by
  obtain ⟨r, _, hr⟩ := List.mem_flatMap.1 hu
  simp [RetV.arr] at hr
  rcases hr with rfl | rfl | rfl | rfl | rfl | rfl | rfl <;> rfl
theorem retVals_at : ∀ (l : List RetV) (k j : Nat) (v : Value) (h : k < l.length), l[k].arr.toList[j]? = some v → (retVals l)[k * 7 + j]? = some v
  | [], _, _, _, h, _ => by simp at h
  | a :: l, 0, j, v, _, h => by
    have hj : j < 7 := (List.getElem?_eq_some_iff.1 h).1
    simp only [retVals, List.flatMap_cons, Nat.zero_mul, Nat.zero_add]
    rw [List.getElem?_append_left (by simpa [RetV.arr] using hj)]
    exact h
  | a :: l, k + 1, j, v, hk, h => by
    have ih := retVals_at l k j v (by simpa using hk) (by simpa using h)
    simp only [retVals, List.flatMap_cons] at ih ⊢
    have e0 : a.arr.toList.length = 7 := rfl
    rw [List.getElem?_append_right (by rw [e0]; omega), e0]
    have e : (k + 1) * 7 + j - 7 = k * 7 + j := by omega
    rw [e]; exact ih
theorem retVals_mod (l : List RetV) (n : Nat) (v : Value) (h : (retVals l)[n]? = some v) : ∃ (h1 : n / 7 < l.length), l[n / 7].arr.toList[n % 7]? = some v := by
  have hn : n < (retVals l).length := (List.getElem?_eq_some_iff.1 h).1
  rw [retVals_len] at hn
  have h1 : n / 7 < l.length := by omega
  refine ⟨h1, ?_⟩
  have h7 : n % 7 < l[n / 7].arr.toList.length := by show n % 7 < 7; omega
  have := retVals_at l (n / 7) (n % 7) _ h1 (List.getElem?_eq_getElem h7)
  rw [show n / 7 * 7 + n % 7 = n by omega, h] at this
  rw [List.getElem?_eq_getElem h7, this]
theorem srcAt_rets {w : World} {A : Option Addr} {l : List RetV} (h : RetsAt w A l) : SrcAt w A (retVals l) := fun hne => by
  have h0 : 0 < l.length := by
    rcases Nat.eq_zero_or_pos l.length with h0 | h0
    · rw [List.length_eq_zero_iff] at h0; subst h0; exact absurd rfl hne
    · exact h0
  obtain ⟨b, o, hA, hb, hc⟩ := h h0
  refine ⟨b, o, hA, fun j v hv => ?_⟩
  obtain ⟨h1, h2⟩ := retVals_mod l j v hv
  have := hc (j / 7) h1 (j % 7) v h2
  rw [← this]; congr 2; omega
theorem rets_of_own {w : World} {base e : Nat} {v : Value} {n : Nat} {l : List RetV} (h : w.ownsRow base e 7 v n (retVals l)) :
    ∃ A cap, v = .slice A l.length cap ∧ n = l.length ∧ RetsAt w A l := by
  have hn : n = l.length := by have := h.1; rw [retVals_len] at this; omega
  rcases h.2 with ⟨rfl, h0⟩ | ⟨g, cap, cur, rfl, hg, hh, hc1, hc2, _, _⟩
  · exact ⟨none, 0, by rw [← hn, h0], hn, fun h1 => by omega⟩
  · refine ⟨some ⟨g, 0, none⟩, cap, by rw [hn], hn, fun _ => ⟨g, 0, rfl, (h.lt g rfl).2, fun k hk j v hv => ?_⟩⟩
    have := h.cells (g := g) rfl (k * 7 + j) v (retVals_at l k j v hk hv)
    rw [Addr.add_mid] at this
    rw [← this]
    simp
theorem RetsAt.take {w : World} {A : Option Addr} {l : List RetV} (h : RetsAt w A l) (n : Nat) : RetsAt w A (l.take n) := fun h0 => by
  have h1 : 0 < l.length := by rw [List.length_take] at h0; omega
  obtain ⟨b, o, hA, hb, hc⟩ := h h1
  refine ⟨b, o, hA, hb, fun i hi => ?_⟩
  have hi' : i < l.length := by rw [List.length_take] at hi; omega
  have := hc i hi'
  simpa using this
theorem info_retV : (Try.prog.info? 24).map (fun i => (i.zero, i.size, i.bytes)) = some (some (.agg #[.int .u32 0, .int .u32 0, .int .i64 0, .bool false, .int .u32 0, .int .u32 0, .int .i64 0]), 7, 40) := by kernel_rfl

/-- A state that has another one's memory and registers. -/
def StV.mix (s t : StV) : StV := ⟨t.pc, s.regs, t.csrs, s.A, s.mem, s.cap⟩
theorem StV.mix_ok {s t : StV} {w : World} (hs : s.OK w) (ht : t.OK w) : (s.mix t).OK w := ⟨hs.regs, ht.csrs, hs.mem, hs.cap, hs.big⟩
theorem StV.mix_cells {s t : StV} {w : World} (hs : s.OK w) (ht : t.OK w) : spl (t.arr.toList.set 38 (.slice s.A s.mem.length s.cap)) 1 (nums .u32 s.regs).toList = (s.mix t).arr.toList := by
  have r1 := hs.regs
  have r2 := ht.regs
  have r3 := ht.csrs
  have e1 : (nums .u32 s.regs).toList = s.regs.map fun (n : Nat) => Value.int .u32 (n : Int) := by simp [nums]
  simp only [spl, e1, StV.arr, StV.mix, List.length_map, r1]
  generalize hR : (t.regs.map fun (n : Nat) => Value.int .u32 (n : Int)) = R
  generalize hC : (t.csrs.map fun (n : Nat) => Value.int .u32 (n : Int)) = C
  have lR : R.length = 32 := by rw [← hR]; simpa using r2
  have lC : C.length = 5 := by rw [← hC]; simpa using r3
  have e2 : ∀ x y z : Value, (x :: (R ++ (C ++ [y]))).set 38 z = x :: (R ++ (C ++ [z])) := fun x y z => by
    simp [List.set_append, lR, lC]
  rw [e2]
  simp [lR, List.drop_append, List.drop_eq_nil_of_le]

theorem StV.arr_one (s : StV) : s.arr.all (·.oneCell') = true := by
  rw [Array.all_eq_true_iff_forall_mem]
  intro v hv
  simp only [StV.arr, List.mem_toArray, List.mem_cons, List.mem_append, List.mem_map, List.not_mem_nil, or_false] at hv
  rcases hv with rfl | ⟨_, _, rfl⟩ | ⟨_, _, rfl⟩ | rfl <;> rfl
end Go.Proofs.Ytgdmmhedcklkaaa
