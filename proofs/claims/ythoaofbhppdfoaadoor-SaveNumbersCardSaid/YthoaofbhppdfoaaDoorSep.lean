/- What a call owns: assertions on blocks of its own, apart from each other. -/
import Derived.Test.YthoaofbhppdfoaaDoorRowC
namespace Go.Proofs.YthoaofbhppdfoaaDoor
open Go.RowKit Go.Dio

theorem Tz.lt {w : World} (h : Tz w) : 0 < w.heap.size := by
  rcases Nat.lt_or_ge 0 w.heap.size with h0 | h0
  · exact h0
  · have hc := h 0 (by decide)
    have e : w.heap[0]? = none := by rw [Array.getElem?_eq_none_iff]; exact h0
    simp [World.cell?, e] at hc

/-- An assertion on some blocks: it stays as long as these (and the table) stay. -/
structure Ast where
  fp : List Nat
  ok : World → Prop
  st : ∀ S w w', ok w → Upd S w w' → (∀ x ∈ fp, x ∉ S) → 0 ∉ S → ok w'

/-- The assertions hold, on blocks of the call's own, apart from each other; what was there is as it was. -/
structure Env (w0 : World) (As : List Ast) (w : World) : Prop where
  upd : Upd [] w0 w
  tz : Tz w
  ok : ∀ (i : Nat) (A : Ast), As[i]? = some A → A.ok w
  nodup : (As.flatMap Ast.fp).Nodup
  old : ∀ x ∈ As.flatMap Ast.fp, w0.heap.size ≤ x ∧ x < w.heap.size

theorem mem_fp {As : List Ast} {i : Nat} {A : Ast} (hi : As[i]? = some A) {x : Nat} (hx : x ∈ A.fp) : x ∈ As.flatMap Ast.fp :=
  List.mem_flatMap.2 ⟨A, List.mem_of_getElem? hi, hx⟩
theorem fp_apart : ∀ {As : List Ast} {i j : Nat} {A B : Ast}, (As.flatMap Ast.fp).Nodup → As[i]? = some A → As[j]? = some B → i ≠ j → ∀ x ∈ A.fp, x ∉ B.fp
  | [], _, _, _, _, _, h, _, _ => by simp at h
  | C :: As, 0, 0, _, _, _, _, _, h => absurd rfl h
  | C :: As, 0, j + 1, A, B, hn, hi, hj, _ => by
    obtain rfl : C = A := by simpa using hi
    rw [List.flatMap_cons, List.nodup_append] at hn
    intro x hx hb
    exact hn.2.2 x hx x (mem_fp (by simpa using hj) hb) rfl
  | C :: As, i + 1, 0, A, B, hn, hi, hj, _ => by
    obtain rfl : C = B := by simpa using hj
    rw [List.flatMap_cons, List.nodup_append] at hn
    intro x hx hb
    exact hn.2.2 x hb x (mem_fp (by simpa using hi) hx) rfl
  | C :: As, i + 1, j + 1, A, B, hn, hi, hj, hne => by
    rw [List.flatMap_cons, List.nodup_append] at hn
    exact fp_apart (As := As) hn.2.1 (by simpa using hi) (by simpa using hj) (by omega)
theorem fp_set : ∀ {As : List Ast} {i : Nat} {A A' : Ast}, As[i]? = some A → A'.fp = A.fp → (As.set i A').flatMap Ast.fp = As.flatMap Ast.fp
  | [], _, _, _, h, _ => by simp at h
  | C :: As, 0, A, A', h, hf => by
    obtain rfl : C = A := by simpa using h
    simp [hf]
  | C :: As, i + 1, A, A', h, hf => by
    simp only [List.set_cons_succ, List.flatMap_cons]
    rw [fp_set (As := As) (by simpa using h) hf]

theorem Env.tzne {w0 : World} {As : List Ast} {w : World} (h : Env w0 As w) (h0 : Tz w0) {x : Nat} (hx : x ∈ As.flatMap Ast.fp) : x ≠ 0 := by
  have := (h.old x hx).1; have := h0.lt; omega

theorem Env.near {w0 : World} {As : List Ast} {w w' : World} (h : Env w0 As w) (u : Upd [] w w') : Env w0 As w' :=
  ⟨h.upd.trans u, h.tz.of_upd u (by simp), fun i A hi => A.st [] w w' (h.ok i A hi) u (by simp) (by simp), h.nodup, fun x hx => ⟨(h.old x hx).1, Nat.lt_of_lt_of_le (h.old x hx).2 u.size⟩⟩

/-- One assertion was turned by a call that writes its blocks alone. -/
theorem Env.set {w0 : World} {As : List Ast} {w w' : World} (h : Env w0 As w) (h0 : Tz w0) (i : Nat) {A A' : Ast} (hi : As[i]? = some A) {S : List Nat} (u : Upd S w w') (hS : ∀ x ∈ S, x ∈ A.fp) (h' : A'.ok w') (hf : A'.fp = A.fp) : Env w0 (As.set i A') w' := by
  have hz : 0 ∉ S := fun hm => h.tzne h0 (mem_fp hi (hS _ hm)) rfl
  refine ⟨h.upd.then u (fun x hx hlt => ?_), h.tz.of_upd u hz, fun j B hj => ?_, ?_, ?_⟩
  · have := (h.old x (mem_fp hi (hS x hx))).1; omega
  · by_cases e : i = j
    · subst e
      have hl : i < As.length := (List.getElem?_eq_some_iff.1 hi).1
      rw [List.getElem?_set_self hl] at hj
      obtain rfl : A' = B := by simpa using hj
      exact h'
    · rw [List.getElem?_set_ne e] at hj
      exact B.st S w w' (h.ok j B hj) u (fun x hx hm => fp_apart h.nodup hj hi (Ne.symm e) x hx (hS x hm)) hz
  · rw [fp_set hi hf]; exact h.nodup
  · rw [fp_set hi hf]; exact fun x hx => ⟨(h.old x hx).1, Nat.lt_of_lt_of_le (h.old x hx).2 u.size⟩

/-- A new assertion on blocks that a call has made. -/
theorem Env.add {w0 : World} {As : List Ast} {w w' : World} (h : Env w0 As w) (u : Upd [] w w') (A : Ast) (hA : A.ok w') (hn : A.fp.Nodup) (hf : ∀ x ∈ A.fp, w.heap.size ≤ x ∧ x < w'.heap.size) : Env w0 (A :: As) w' := by
  have hk := h.near u
  refine ⟨hk.upd, hk.tz, fun i B hi => ?_, ?_, ?_⟩
  · cases i with
    | zero => obtain rfl : A = B := by simpa using hi
              exact hA
    | succ i => exact hk.ok i B (by simpa using hi)
  · rw [List.flatMap_cons, List.nodup_append]
    refine ⟨hn, h.nodup, fun x hx y hy e => ?_⟩
    have := (hf x hx).1
    have := (h.old y hy).2
    omega
  · intro x hx
    rw [List.flatMap_cons, List.mem_append] at hx
    rcases hx with hx | hx
    · have := hf x hx; have := h.upd.size; omega
    · exact hk.old x hx
theorem Env.drop1 {w0 : World} {A : Ast} {As : List Ast} {w : World} (h : Env w0 (A :: As) w) : Env w0 As w := by
  refine ⟨h.upd, h.tz, fun i B hi => h.ok (i + 1) B (by simpa using hi), ?_, fun x hx => h.old x (by rw [List.flatMap_cons, List.mem_append]; exact .inr hx)⟩
  have := h.nodup
  rw [List.flatMap_cons, List.nodup_append] at this
  exact this.2.1
theorem Env.none {w : World} (hT : Tz w) : Env w [] w := ⟨Upd.refl _ _, hT, by simp, by simp, by simp⟩
theorem Env.below {w0 : World} {As : List Ast} {w : World} (h : Env w0 As w) : Below w0.heap.size w0 w := h.upd.below

/-- A block that is known whole. -/
def blk (b : Nat) (c : List Value) (T : TypeId) : Ast :=
  ⟨[b], fun w => w.heap[b]? = some (.cells c.toArray T (0, 0)), fun _ _ _ h u hb _ => u.keep h (hb b (by simp))⟩
/-- A row of protected words. -/
def rowA (T : TypeId) (b d : Nat) (l : List Nat) (f : Nat) : Ast :=
  ⟨[b, d], RowAt T b d l f, fun _ _ _ h u hb hg => h.upd u (hb b (by simp)) (hb d (by simp)) hg⟩
end Go.Proofs.YthoaofbhppdfoaaDoor
