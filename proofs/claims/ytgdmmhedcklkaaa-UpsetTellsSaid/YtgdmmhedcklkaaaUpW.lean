/- Upsets: rows of upsets and rows that are appended to. -/
import Derived.Test.YtgdmmhedcklkaaaUpA
namespace Go.Proofs.Ytgdmmhedcklkaaa
open Go.RowKit Go.Dio
set_option linter.unusedSimpArgs false
set_option linter.unusedVariables false

def upVals (l : List UpV) : List Value := l.flatMap encU
theorem upVals_len : ∀ l : List UpV, (upVals l).length = l.length * 2
  | [] => rfl
  | u :: t => by
    show (encU u ++ upVals t).length = _
    rw [List.length_append, upVals_len t]; simp [encU]; omega
theorem upVals_append (l m : List UpV) : upVals (l ++ m) = upVals l ++ upVals m := by simp [upVals]
theorem upVals_one (l : List UpV) : ∀ u ∈ upVals l, u.oneCell' = true := fun u hu => by
  simp only [upVals, List.mem_flatMap, encU] at hu
  obtain ⟨x, _, hx⟩ := hu
  simp at hx
  rcases hx with rfl | rfl <;> rfl
theorem upVals_at : ∀ (l : List UpV) (k : Nat) (h : k < l.length), (upVals l)[k * 2]? = some (.int .i64 l[k].1) ∧ (upVals l)[k * 2 + 1]? = some (.int .i64 l[k].2)
  | u :: t, 0, _ => ⟨rfl, rfl⟩
  | u :: t, k + 1, h => by
    have ih := upVals_at t k (by simpa using h)
    show (encU u ++ upVals t)[(k + 1) * 2]? = _ ∧ (encU u ++ upVals t)[(k + 1) * 2 + 1]? = _
    have e : (encU u).length = 2 := rfl
    rw [List.getElem?_append_right (by rw [e]; omega), List.getElem?_append_right (by rw [e]; omega), e, show (k + 1) * 2 - 2 = k * 2 by omega, show (k + 1) * 2 + 1 - 2 = k * 2 + 1 by omega]
    simpa using ih
theorem upVals_get (l : List UpV) (n : Nat) (v : Value) (h : (upVals l)[n]? = some v) : ∃ (h1 : n / 2 < l.length), v = if n % 2 = 0 then .int .i64 l[n / 2].1 else .int .i64 l[n / 2].2 := by
  have hn : n < (upVals l).length := by
    rcases Nat.lt_or_ge n (upVals l).length with h1 | h1
    · exact h1
    · rw [List.getElem?_eq_none h1] at h; cases h
  rw [upVals_len] at hn
  have h1 : n / 2 < l.length := by omega
  refine ⟨h1, ?_⟩
  obtain ⟨a, b⟩ := upVals_at l (n / 2) h1
  rcases Nat.mod_two_eq_zero_or_one n with e | e
  · rw [if_pos e]
    rw [show n / 2 * 2 = n by omega, h] at a
    exact Option.some.inj a
  · rw [if_neg (by omega)]
    rw [show n / 2 * 2 + 1 = n by omega, h] at b
    exact Option.some.inj b
theorem srcAt_ups {w : World} {A : Option Addr} {l : List UpV} (h : UpsAt w A l) : SrcAt w A (upVals l) := fun hne => by
  have h0 : 0 < l.length := by
    rcases Nat.eq_zero_or_pos l.length with h0 | h0
    · rw [List.length_eq_zero_iff] at h0; subst h0; exact absurd rfl hne
    · exact h0
  obtain ⟨b, o, hA, hb, hc⟩ := h h0
  refine ⟨b, o, hA, fun j v hv => ?_⟩
  obtain ⟨h1, h2⟩ := upVals_get l j v hv
  obtain ⟨c1, c2⟩ := hc (j / 2) h1
  rcases Nat.mod_two_eq_zero_or_one j with e | e
  · rw [if_pos e] at h2; subst h2; rw [← c1]; congr 2; omega
  · rw [if_neg (by omega)] at h2; subst h2; rw [← c2]; congr 2; omega
theorem ups_of_own {w : World} {base e : Nat} {v : Value} {n : Nat} {l : List UpV} (h : w.ownsRow base e 2 v n (upVals l)) :
    ∃ A cap, v = .slice A l.length cap ∧ n = l.length ∧ l.length ≤ cap ∧ cap ≤ 9223372036854775807 ∧ UpsAt w A l ∧ (A = none → cap = 0 ∧ l.length = 0) ∧ ∀ a, A = some a → ∃ g cur, a = ⟨g, 0, none⟩ ∧ base ≤ g ∧ w.heap[g]? = some (.cells cur e (0, 0)) := by
  have hn : n = l.length := by have := h.1; rw [upVals_len] at this; omega
  rcases h.2 with ⟨rfl, h0⟩ | ⟨g, cap, cur, rfl, hg, hh, hc1, hc2, _, _⟩
  · exact ⟨none, 0, by rw [← hn, h0], hn, by omega, by omega, fun h1 => by omega, fun _ => ⟨rfl, by omega⟩, fun a ha => by cases ha⟩
  · refine ⟨some ⟨g, 0, none⟩, cap, by rw [hn], hn, by omega, by simpa [maxLen] using hc2, fun _ => ⟨g, 0, rfl, (h.lt g rfl).2, fun k hk => ?_⟩, fun h => (nomatch h), fun a ha => ⟨g, cur, (Option.some.inj ha).symm, hg, hh⟩⟩
    obtain ⟨a, b⟩ := upVals_at l k hk
    have ca := h.cells (g := g) rfl (k * 2) _ a
    have cb := h.cells (g := g) rfl (k * 2 + 1) _ b
    rw [Addr.add_mid] at ca cb
    constructor
    · rw [← ca]
    · rw [← cb, Nat.add_assoc]
theorem UpsAt.take {w : World} {A : Option Addr} {l : List UpV} (h : UpsAt w A l) (n : Nat) : UpsAt w A (l.take n) := fun h0 => by
  have h1 : 0 < l.length := by rw [List.length_take] at h0; omega
  obtain ⟨b, o, hA, hb, hc⟩ := h h1
  refine ⟨b, o, hA, hb, fun i hi => ?_⟩
  have hi' : i < l.length := by rw [List.length_take] at hi; omega
  have := hc i hi'
  simpa using this
theorem UpsAt.drop {w : World} {b o : Nat} {l : List UpV} (h : UpsAt w (some ⟨b, o, none⟩) l) (n : Nat) : UpsAt w (some ⟨b, o + n * 2, none⟩) (l.drop n) := fun h0 => by
  have h1 : n < l.length := by rw [List.length_drop] at h0; omega
  obtain ⟨b', o', hA, hb, hc⟩ := h (by omega)
  cases hA
  refine ⟨b, _, rfl, hb, fun i hi => ?_⟩
  have hi' : n + i < l.length := by rw [List.length_drop] at hi; omega
  obtain ⟨c1, c2⟩ := hc (n + i) hi'
  rw [List.getElem_drop]
  constructor
  · rw [← c1]; congr 2; omega
  · rw [← c2]; congr 2; omega
theorem upsAt_nil (w : World) (A : Option Addr) : UpsAt w A [] := fun h => absurd h (by simp)
theorem info_up : (Try.prog.info? 37).map (fun i => (i.zero, i.size, i.bytes)) = some (some (.agg #[.int .i64 0, .int .i64 0]), 2, 16) := by kernel_rfl
/-- The numbers of a slice of ints. -/
def iVals (l : List Int) : List Value := l.map fun n => Value.int .i64 n
def IntsAt' (w : World) (A : Option Addr) (l : List Int) : Prop :=
  0 < l.length → ∃ b o, A = some ⟨b, o, none⟩ ∧ b < w.heap.size ∧ ∀ i (h : i < l.length), w.cell? ⟨b, o + i, none⟩ = some (.int .i64 l[i])
theorem IntsAt'.of_upd {w w' : World} {A : Option Addr} {l : List Int} (h : IntsAt' w A l) (hu : Upd [] w w') : IntsAt' w' A l := fun h0 => by
  obtain ⟨b, o, hA, hb, hc⟩ := h h0
  refine ⟨b, o, hA, Nat.lt_of_lt_of_le hb hu.size, fun i hi => ?_⟩
  rw [← hc i hi]; exact World.cell?_of_block (hu.block b hb (by simp))
theorem iVals_one (l : List Int) : ∀ u ∈ iVals l, u.oneCell' = true := fun u hu => by
  simp only [iVals, List.mem_map] at hu
  obtain ⟨x, _, rfl⟩ := hu
  rfl
theorem ints_of_own {w : World} {base e : Nat} {v : Value} {n : Nat} {l : List Int} (h : w.ownsRow base e 1 v n (iVals l)) :
    ∃ A cap, v = .slice A l.length cap ∧ n = l.length ∧ l.length ≤ cap ∧ cap ≤ 9223372036854775807 ∧ IntsAt' w A l := by
  have hn : n = l.length := by have := h.1; simp [iVals] at this; omega
  rcases h.2 with ⟨rfl, h0⟩ | ⟨g, cap, cur, rfl, hg, hh, hc1, hc2, _, _⟩
  · exact ⟨none, 0, by rw [← hn, h0], hn, by omega, by omega, fun h1 => by omega⟩
  · refine ⟨some ⟨g, 0, none⟩, cap, by rw [hn], hn, by omega, by simpa [maxLen] using hc2, fun _ => ⟨g, 0, rfl, (h.lt g rfl).2, fun k hk => ?_⟩⟩
    have ca := h.cells (g := g) rfl k (.int .i64 l[k]) (by simp [iVals, hk])
    rw [Addr.add_mid] at ca
    rw [← ca]
theorem info_i64 : (Try.prog.info? 3).map (fun i => (i.zero, i.size, i.bytes)) = some (some (.int .i64 0), 1, 8) := by kernel_rfl
end Go.Proofs.Ytgdmmhedcklkaaa
