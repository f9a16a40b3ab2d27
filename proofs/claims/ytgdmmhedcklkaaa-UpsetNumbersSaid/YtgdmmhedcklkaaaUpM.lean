/- Upsets: the plain laws of sorting, spacing, taking. -/
import Derived.WalkKit
import Derived.Lib.Hide
namespace Go.Dio
abbrev UpV := Int × Int
def ltU (x y : UpV) : Bool := decide (x.1 < y.1) || (decide (x.1 = y.1) && decide (x.2 < y.2))
theorem ltU_iff (x y : UpV) : ltU x y = true ↔ x.1 < y.1 ∨ (x.1 = y.1 ∧ x.2 < y.2) := by simp [ltU]
theorem ltU_not (x y : UpV) : ltU x y = false ↔ y.1 < x.1 ∨ (x.1 = y.1 ∧ y.2 ≤ x.2) := by
  rw [← Bool.not_eq_true, ltU_iff]; omega
def SortedU (l : List UpV) : Prop := l.Pairwise fun a b => ltU b a = false
theorem sorted_unique {a b : List UpV} (ha : SortedU a) (hb : SortedU b) (h : a.Perm b) : a = b :=
  List.Perm.eq_of_pairwise (le := fun a b => ltU b a = false) (fun x y _ _ h1 h2 => by
    rw [ltU_not] at h1 h2
    exact Prod.ext (by omega) (by omega)) ha hb h
def insU (u : UpV) : List UpV → List UpV
  | [] => [u]
  | a :: t => if ltU u a = true then u :: a :: t else a :: insU u t
theorem insU_perm (u : UpV) : ∀ l, (insU u l).Perm (u :: l)
  | [] => .refl _
  | a :: t => by
    unfold insU
    split
    · exact .refl _
    · exact ((insU_perm u t).cons a).trans (.swap u a t)
theorem insU_len (u : UpV) (l : List UpV) : (insU u l).length = l.length + 1 := by rw [(insU_perm u l).length_eq]; rfl
theorem insU_sorted (u : UpV) : ∀ l, SortedU l → SortedU (insU u l)
  | [], _ => by simp [insU, SortedU]
  | a :: t, h => by
    have hc := List.pairwise_cons.1 h
    unfold insU
    split
    · next hlt =>
      refine List.pairwise_cons.2 ⟨fun x hx => ?_, h⟩
      rw [ltU_iff] at hlt
      rcases List.mem_cons.1 hx with rfl | hx
      · rw [ltU_not]; omega
      · have := hc.1 x hx
        rw [ltU_not] at this ⊢; omega
    · next hlt =>
      rw [Bool.not_eq_true] at hlt
      refine List.pairwise_cons.2 ⟨fun x hx => ?_, insU_sorted u t hc.2⟩
      rcases List.mem_cons.1 ((insU_perm u t).mem_iff.1 hx) with rfl | hx
      · exact hlt
      · exact hc.1 x hx
def srtTo (o : List UpV) : List UpV → List UpV
  | [] => o
  | u :: t => srtTo (insU u o) t
def srt (l : List UpV) : List UpV := srtTo [] l
theorem srtTo_sorted : ∀ (l o : List UpV), SortedU o → SortedU (srtTo o l)
  | [], _, h => h
  | u :: t, o, h => srtTo_sorted t _ (insU_sorted u o h)
theorem srtTo_perm : ∀ (l o : List UpV), (srtTo o l).Perm (l ++ o)
  | [], o => .refl _
  | u :: t, o => (srtTo_perm t _).trans (((insU_perm u o).append_left t).trans List.perm_middle)
theorem srtTo_append : ∀ (l m o : List UpV), srtTo o (l ++ m) = srtTo (srtTo o l) m
  | [], _, _ => rfl
  | u :: t, m, o => srtTo_append t m _
theorem srt_sorted (l : List UpV) : SortedU (srt l) := srtTo_sorted l [] .nil
theorem srt_perm (l : List UpV) : (srt l).Perm l := by have := srtTo_perm l []; rwa [List.append_nil] at this
theorem srt_len (l : List UpV) : (srt l).length = l.length := (srt_perm l).length_eq
theorem srt_unique {l s : List UpV} (h : SortedU s) (p : s.Perm l) : s = srt l := sorted_unique h (srt_sorted l) (p.trans (srt_perm l).symm)
theorem srt_snoc (l : List UpV) (u : UpV) : srt (l ++ [u]) = insU u (srt l) := srtTo_append l [u] []
/-- The place to insert: what the loop finds. -/
theorem insU_at (u : UpV) : ∀ (o : List UpV) (j : Nat), SortedU o → j ≤ o.length → (∀ i x, j ≤ i → o[i]? = some x → ltU u x = true) → (∀ x, 0 < j → o[j - 1]? = some x → ltU u x = false) → o.take j ++ u :: o.drop j = insU u o
  | [], j, _, hj, _, _ => by obtain rfl : j = 0 := by simpa using hj
                             rfl
  | a :: t, 0, _, _, h1, _ => by
    have := h1 0 a (Nat.le_refl _) rfl
    simp [insU, this]
  | a :: t, j + 1, hs, hj, h1, h2 => by
    have hc := List.pairwise_cons.1 hs
    have ha : ltU u a = false := by
      rcases Nat.eq_zero_or_pos j with rfl | h0
      · exact h2 a (by omega) rfl
      · have hj2 : j - 1 < t.length := by simp at hj; omega
        have e : (a :: t)[j + 1 - 1]? = some t[j - 1] := by
          rw [show j + 1 - 1 = (j - 1) + 1 by omega, List.getElem?_cons_succ, List.getElem?_eq_getElem hj2]
        have k1 := h2 _ (by omega) e
        have k2 := hc.1 _ (List.getElem_mem hj2)
        rw [ltU_not] at k1 k2 ⊢; omega
    have ih := insU_at u t j hc.2 (by simpa using hj) (fun i x hi hx => h1 (i + 1) x (by omega) (by simpa using hx)) (fun x h0 hx => h2 x (by omega) (by
      rw [show j + 1 - 1 = (j - 1) + 1 by omega, List.getElem?_cons_succ]; exact hx))
    simp [insU, ha, ← ih]

def tooNear (a b : Int) : Bool := decide (IntKind.u64.wrap (IntKind.u64.wrap a - IntKind.u64.wrap b) < 8192)
def nearAt (s : List UpV) (i : Nat) : Bool := decide (0 < i) && tooNear (s.getD i (0, 0)).1 (s.getD (i - 1) (0, 0)).1
def spTo (s : List UpV) : Nat → Bool
  | 0 => true
  | n + 1 => spTo s n && !nearAt s n
def spaced (l : List UpV) : Bool := spTo (srt l) l.length
theorem spTo_false {s : List UpV} {n : Nat} (h : nearAt s n = true) : ∀ m, n < m → spTo s m = false
  | m + 1, hm => by
    unfold spTo
    rcases Nat.lt_or_ge n m with h1 | h1
    · rw [spTo_false h m h1]; rfl
    · obtain rfl : n = m := by omega
      rw [h]; simp
def ats (c : Int) (s : List UpV) : List Int := (s.filter fun u => decide (u.1 = c)).map (·.2)
theorem ats_snoc (c : Int) (s : List UpV) (u : UpV) : ats c (s ++ [u]) = ats c s ++ (if u.1 = c then [u.2] else []) := by
  unfold ats
  rw [List.filter_append, List.map_append]
  by_cases h : u.1 = c <;> simp [h]
theorem ats_len (c : Int) (s : List UpV) : (ats c s).length ≤ s.length := by
  unfold ats; rw [List.length_map]; exact List.length_filter_le _ _
def badU (bits budget : Int) (u : UpV) : Bool := decide (u.1 < 0) || decide (budget ≤ u.1) || decide (u.2 < 0) || decide (bits ≤ u.2)
def rightE (l : List UpV) (bits budget : Int) : Int := if 64 < l.length then 3 else if l.any (badU bits budget) = true then 23 else 0
theorem any_take {α : Type} (p : α → Bool) (l : List α) (i : Nat) (hi : i < l.length) : (l.take (i + 1)).any p = ((l.take i).any p || p l[i]) := by
  rw [List.take_succ_eq_append_getElem hi, List.any_append]; simp
theorem any_of_take {α : Type} (p : α → Bool) (l : List α) (i : Nat) (hi : i < l.length) (h : p l[i] = true) : l.any p = true :=
  List.any_eq_true.2 ⟨_, List.getElem_mem hi, h⟩
end Go.Dio
