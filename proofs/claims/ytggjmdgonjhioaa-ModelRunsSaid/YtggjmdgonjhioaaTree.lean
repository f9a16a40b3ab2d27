/- A region that draws its order, walked by a tree of plans: where several operations may come up, each of them. -/
import Derived.Test.YtggjmdgonjhioaaPlan
namespace Go.Dio
open Go

/-- What only reads first; then each of the operations that may come up, with a tree of its own. -/
inductive PTree where
  | done (last : List Nat)
  | one (qs : List Nat) (i : Nat) (t : PTree)
  | two (qs : List Nat) (i : Nat) (t : PTree) (j : Nat) (u : PTree)

section
variable {P : Program} {ops : Array Oper} {md : Region.Mode} {Q : Exit → Act → World → Prop}

def treeB (md : Region.Mode) (ops : Array Oper) : PTree → Array Bool → Bool
  | .done last, l => quietB md ops last l && (Region.ready md ops (listAll last l)).isEmpty
  | .one qs i t, l => quietB md ops qs l && decide (Region.ready md ops (listAll qs l) = [i]) && (ops[i]?).isSome && treeB md ops t ((listAll qs l).setIfInBounds i true)
  | .two qs i t j u, l => quietB md ops qs l && decide (Region.ready md ops (listAll qs l) = [i, j]) && (ops[i]?).isSome && (ops[j]?).isSome && treeB md ops t ((listAll qs l).setIfInBounds i true) && treeB md ops u ((listAll qs l).setIfInBounds j true)
def treeN : PTree → Nat
  | .done last => last.length
  | .one qs _ t => qs.length + 1 + treeN t
  | .two qs _ t _ u => qs.length + 1 + max (treeN t) (treeN u)

def wpTree (P : Program) (ops : Array Oper) (Q : Exit → Act → World → Prop) (S : World → Prop) : PTree → Act → World → Prop
  | .done last, a, w => wpQuiet P ops S (fun a' => Q .normal a' w) (opsAt ops last) a
  | .one qs i t, a, w => wpQuiet P ops S (fun a' => wpList P ops (endQ Q fun a2 w2 => S w2 ∧ wpTree P ops Q S t a2 w2) (opsAt ops [i]) a' w) (opsAt ops qs) a
  | .two qs i t j u, a, w => wpQuiet P ops S (fun a' => wpList P ops (endQ Q fun a2 w2 => S w2 ∧ wpTree P ops Q S t a2 w2) (opsAt ops [i]) a' w ∧ wpList P ops (endQ Q fun a2 w2 => S w2 ∧ wpTree P ops Q S u a2 w2) (opsAt ops [j]) a' w) (opsAt ops qs) a

theorem wpAnyH_succ {S : World → Prop} : ∀ (f : Nat) (listed : Array Bool) (a : Act) (w : World), wpAnyH P md ops Q S f listed a w → wpAnyH P md ops Q S (f + 1) listed a w
  | 0, _, _, _, h => ⟨fun _ => h.2, by rw [h.1]; simp⟩
  | f + 1, _, _, _, h => ⟨h.1, fun i hi => wpOp_mono (fun a' w' h' => ⟨h'.1, wpAnyH_succ f _ a' w' h'.2⟩) (h.2 i hi)⟩
theorem wpAnyH_more {S : World → Prop} {f : Nat} {listed : Array Bool} {a : Act} {w : World} (h : wpAnyH P md ops Q S f listed a w) : ∀ g, wpAnyH P md ops Q S (f + g) listed a w
  | 0 => h
  | g + 1 => wpAnyH_succ _ _ _ _ (wpAnyH_more h g)
theorem wpAnyH_le {S : World → Prop} {f g : Nat} {listed : Array Bool} {a : Act} {w : World} (h : wpAnyH P md ops Q S f listed a w) (hg : f ≤ g) : wpAnyH P md ops Q S g listed a w := by
  obtain ⟨k, rfl⟩ := Nat.exists_eq_add_of_le hg
  exact wpAnyH_more h k

theorem tree_op {S : World → Prop} {i f : Nat} {o : Oper} {l : Array Bool} {a : Act} {w : World} (ho : ops[i]? = some o) {F : Act → World → Prop}
    (hF : ∀ a2 w2, F a2 w2 → S w2 ∧ wpAnyH P md ops Q S f (l.setIfInBounds i true) a2 w2) (h : wpList P ops (endQ Q F) (opsAt ops [i]) a w) :
    wpOp P ops Q i (fun a' w' => S w' ∧ wpAnyH P md ops Q S f (l.setIfInBounds i true) a' w') a w := by
  rw [show opsAt ops [i] = [o] by simp [opsAt, ho]] at h
  unfold wpOp
  simp only [ho]
  unfold wpList at h
  by_cases hw : Region.wanted o (yielded ops a.tmps) = true
  · rw [if_pos hw] at h ⊢
    rcases h with h | h
    · exact .inl (wp_endQ (fun a2 w2 h2 => hF a2 w2 h2) h)
    · exact .inr h
  · rw [if_neg hw] at h ⊢
    exact hF _ _ h

theorem tree_sound {S : World → Prop} (hsel : Region.noSelect ops = true) (hQ : ∀ c d v a w, Q (.panic c) (Act.put a d v) w → Q (.panic c) a w) :
    ∀ (t : PTree) (listed : Array Bool) (a : Act) (w : World), treeB md ops t listed = true → S w → wpTree P ops Q S t a w → wpAnyH P md ops Q S (treeN t) listed a w
  | .done last, listed, a, w, hB, hS, h => by
    simp only [treeB, Bool.and_eq_true, List.isEmpty_iff] at hB
    have := quiet_seg (f := 0) hsel hQ hS last listed a hB.1 h (fun a' hq => ⟨hB.2, hq⟩)
    simpa [treeN] using this
  | .one qs i t, listed, a, w, hB, hS, h => by
    simp only [treeB, Bool.and_eq_true, decide_eq_true_eq] at hB
    obtain ⟨⟨⟨h1, h2⟩, h3⟩, h4⟩ := hB
    obtain ⟨o, ho⟩ := Option.isSome_iff_exists.1 h3
    have := quiet_seg (f := treeN t + 1) hsel hQ hS qs listed a h1 h (fun a' hq => by
      refine wpAnyH_all (rs := [i]) h2 (by simp) ?_
      intro j hj
      obtain rfl : j = i := by simpa using hj
      exact tree_op ho (fun a2 w2 hh => ⟨hh.1, tree_sound hsel hQ t _ a2 w2 h4 hh.1 hh.2⟩) hq)
    rw [show qs.length + (treeN t + 1) = treeN (.one qs i t) by simp only [treeN]; omega] at this
    exact this
  | .two qs i t j u, listed, a, w, hB, hS, h => by
    simp only [treeB, Bool.and_eq_true, decide_eq_true_eq] at hB
    obtain ⟨⟨⟨⟨⟨h1, h2⟩, h3⟩, h3'⟩, h4⟩, h5⟩ := hB
    obtain ⟨o, ho⟩ := Option.isSome_iff_exists.1 h3
    obtain ⟨o', ho'⟩ := Option.isSome_iff_exists.1 h3'
    have := quiet_seg (f := max (treeN t) (treeN u) + 1) hsel hQ hS qs listed a h1 h (fun a' hq => by
      refine wpAnyH_all (rs := [i, j]) h2 (by simp) ?_
      intro k hk
      simp only [List.mem_cons, List.not_mem_nil, or_false] at hk
      rcases hk with rfl | rfl
      · exact tree_op ho (fun a2 w2 hh => ⟨hh.1, wpAnyH_le (tree_sound hsel hQ t _ a2 w2 h4 hh.1 hh.2) (Nat.le_max_left _ _)⟩) hq.1
      · exact tree_op ho' (fun a2 w2 hh => ⟨hh.1, wpAnyH_le (tree_sound hsel hQ u _ a2 w2 h5 hh.1 hh.2) (Nat.le_max_right _ _)⟩) hq.2)
    rw [show qs.length + (max (treeN t) (treeN u) + 1) = treeN (.two qs i t j u) by simp only [treeN]; omega] at this
    exact this

/-- **A region that draws its order, walked by a tree.** -/
theorem wp_region_tree {id : Nat} {a : Act} {w : World} (S : World → Prop) (t : PTree) (hm : P.follows .mixedOrders = true) (hsel : Region.noSelect ops = true)
    (hn : treeN t ≤ ops.size) (hB : treeB .any ops t (Array.replicate ops.size false) = true)
    (hQ : ∀ c d v a w, Q (.panic c) (Act.put a d v) w → Q (.panic c) a w) (hS : S w.drew) (h : wpTree P ops Q S t a w.drew) : (Code.region id ops true).wp P Q a w :=
  wp_region_held (S := S) hm (wpAnyH_le (tree_sound (md := .any) hsel hQ t _ a w.drew hB hS h) hn)
theorem tree_one {S : World → Prop} {qs : List Nat} {i : Nat} {t : PTree} {a : Act} {w : World} (h : wpQuiet P ops S (fun a' => wpList P ops (endQ Q fun a2 w2 => S w2 ∧ wpTree P ops Q S t a2 w2) (opsAt ops [i]) a' w) (opsAt ops qs) a) : wpTree P ops Q S (.one qs i t) a w := h
theorem tree_two {S : World → Prop} {qs : List Nat} {i j : Nat} {t u : PTree} {a : Act} {w : World} (h : wpQuiet P ops S (fun a' => wpList P ops (endQ Q fun a2 w2 => S w2 ∧ wpTree P ops Q S t a2 w2) (opsAt ops [i]) a' w ∧ wpList P ops (endQ Q fun a2 w2 => S w2 ∧ wpTree P ops Q S u a2 w2) (opsAt ops [j]) a' w) (opsAt ops qs) a) : wpTree P ops Q S (.two qs i t j u) a w := h
theorem tree_done {S : World → Prop} {last : List Nat} {a : Act} {w : World} (h : wpQuiet P ops S (fun a' => Q .normal a' w) (opsAt ops last) a) : wpTree P ops Q S (.done last) a w := h
theorem tree_same {S : World → Prop} {t : PTree} {a : Act} {w : World} (hS : S w) (h : wpTree P ops Q S t a w) : endQ Q (fun a2 w2 => S w2 ∧ wpTree P ops Q S t a2 w2) .normal a w := ⟨hS, h⟩
theorem tree_op1 {i : Nat} {o : Oper} {K : Exit → Act → World → Prop} {a : Act} {w : World} (ho : ops[i]? = some o) (h : wpList P ops K [o] a w) : wpList P ops K (opsAt ops [i]) a w := by
  rw [show opsAt ops [i] = [o] by simp [opsAt, ho]]; exact h
end
end Go.Dio
