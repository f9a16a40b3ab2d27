/- A region that draws its order, walked once: what only reads comes first, as soon as it may; of the rest one operation at a time may come up. -/
import Derived.OrdersHeld
import Derived.Deep.Quiet
import Derived.Tactics
import Derived.Tactics2
namespace Go.Dio
open Go

/-- An operation that hands back a value and enters no function. -/
def plainOp : Op → Bool
  | .move _ | .assign _ | .pick .. | .load .. | .nilCheck _ | .binOp .. | .unOp .. | .convert .. | .slice .. | .fieldAddr .. | .field .. | .indexAddr .. | .index .. | .extract .. | .build .. | .makeInterface .. | .sliceToArrayPointer .. => true
  | .call c => match c.callee with
    | .builtin b => match b with | .len | .cap | .min | .max => true | _ => false
    | _ => false
  | _ => false

/-- Whatever it hands back is a value. -/
def Ends (s : Sem Next) : Prop := ∀ (P : Program) (w w' : World) (r : Next), s.run P w = .ok r w' → ∃ v, r = .value v
theorem Ends.bind {α : Type} {s : Sem α} {f : α → Sem Next} (h : ∀ x, Ends (f x)) : Ends (s >>= f) := by
  intro P w w' r hr
  rw [Sem.run_bind] at hr
  cases hs : s.run P w with
  | ok x w1 => rw [hs] at hr; exact h x P w1 w' r hr
  | halt x w1 => rw [hs] at hr; simp [Result.andThen] at hr
theorem Ends.value (v : Value) : Ends (pure (.value v)) := by intro P w w' r hr; cases hr; exact ⟨v, rfl⟩
theorem plain_ends (ρ : Operand → Value) (o : Oper) (hp : plainOp o.op = true) : Ends (execOp ρ o) := by
  obtain ⟨dst, op, ty, pos, af, g⟩ := o
  cases op <;> simp only [plainOp, Bool.false_eq_true] at hp <;> simp only [execOp]
  case move => exact Ends.value _
  case assign => exact Ends.value _
  case nilCheck x =>
    split
    · intro P w w' r h; simp [runtimePanic] at h
    · intro P w w' r h; simp [runtimePanic] at h
    · intro P w w' r h; simp [runtimePanic] at h
    · split
      · intro P w w' r h; simp [runtimePanic] at h
      · refine Ends.bind fun _ => Ends.bind fun _ => ?_
        split
        · exact Ends.bind fun _ => Ends.value _
        · exact Ends.value _
      · exact Ends.value _
    · exact Ends.value _
  case call c =>
    obtain ⟨cal, args, ats⟩ := c
    cases cal with
    | builtin b =>
      cases b <;> simp only [Bool.false_eq_true] at hp <;> simp only [resolve, pure_bind, invoke, builtin] <;> exact Ends.bind fun _ => Ends.value _
    | _ => simp at hp
  all_goals exact Ends.bind fun _ => Ends.value _

section
variable {P : Program} {ops : Array Oper} {md : Region.Mode}

def opsAt (ops : Array Oper) (is : List Nat) : List Oper := is.map fun i => (ops[i]?).getD default
def listAll (is : List Nat) (listed : Array Bool) : Array Bool := is.foldl (fun l i => l.setIfInBounds i true) listed

/-- What only reads may come first: each of these in turn. -/
def quietB (md : Region.Mode) (ops : Array Oper) : List Nat → Array Bool → Bool
  | [], _ => true
  | i :: is, listed => (match ops[i]? with | some o => plainOp o.op | none => false) && (Region.ready md ops listed).contains i && Region.free md ops listed i && quietB md ops is (listed.setIfInBounds i true)

def planB (md : Region.Mode) (ops : Array Oper) : List (List Nat × Nat) → List Nat → Array Bool → Bool
  | [], last, listed => quietB md ops last listed && (Region.ready md ops (listAll last listed)).isEmpty
  | (qs, i) :: rest, last, listed => quietB md ops qs listed && decide (Region.ready md ops (listAll qs listed) = [i]) && (ops[i]?).isSome && planB md ops rest last ((listAll qs listed).setIfInBounds i true)

/-- One operation's own end. -/
def endQ (Q : Exit → Act → World → Prop) (K : Act → World → Prop) : Exit → Act → World → Prop
  | .normal, a, w => K a w
  | e, a, w => Q e a w

/-- The walk by the plan. -/
def wpPlan (P : Program) (ops : Array Oper) (Q : Exit → Act → World → Prop) : (S : World → Prop) → List (List Nat × Nat) → List Nat → Act → World → Prop
  | S, [], last, a, w => wpQuiet P ops S (fun a' => Q .normal a' w) (opsAt ops last) a
  | S, (qs, i) :: rest, last, a, w =>
    wpQuiet P ops S (fun a' => wpList P ops (endQ Q fun a2 w2 => ∃ S' : World → Prop, (∀ w, S' w → S w) ∧ S' w2 ∧ wpPlan P ops Q S' rest last a2 w2) (opsAt ops [i]) a' w) (opsAt ops qs) a

variable {Q : Exit → Act → World → Prop}

theorem wpAnyH_sub {S S' : World → Prop} (hs : ∀ w, S' w → S w) : ∀ (f : Nat) (l : Array Bool) (a : Act) (w : World), wpAnyH P md ops Q S' f l a w → wpAnyH P md ops Q S f l a w
  | 0, _, _, _, h => h
  | f + 1, _, _, _, h => ⟨h.1, fun i hi => wpOp_mono (fun a' w' h' => ⟨hs _ h'.1, wpAnyH_sub hs f _ a' w' h'.2⟩) (h.2 i hi)⟩

theorem yields_of_quiet {S : World → Prop} {o : Oper} {a : Act} {v : Value} (hp : plainOp o.op = true) (hw : Region.wanted o (yielded ops a.tmps) = true) (h : ∀ w, S w → o.quietAt P a S w v) : YieldsIf P ops S o v a := by
  refine .inl ⟨hw, fun w hS => ?_⟩
  have h1 := h w hS
  unfold Oper.quietAt at h1
  cases hr : (execOp a.eval o).run P w with
  | ok r w' =>
    obtain ⟨u, rfl⟩ := plain_ends _ o hp P w w' r hr
    rw [hr] at h1
    obtain ⟨rfl, rfl⟩ := h1
    rfl
  | halt x w' => rw [hr] at h1; exact h1.elim

theorem quiet_seg {S : World → Prop} (hsel : Region.noSelect ops = true) (hQ : ∀ c d v a w, Q (.panic c) (Act.put a d v) w → Q (.panic c) a w) {K : Act → Prop} {f : Nat} {w : World} (hS : S w) :
    ∀ (is : List Nat) (listed : Array Bool) (a : Act), quietB md ops is listed = true → wpQuiet P ops S K (opsAt ops is) a →
      (∀ a', K a' → wpAnyH P md ops Q S f (listAll is listed) a' w) → wpAnyH P md ops Q S (is.length + f) listed a w
  | [], listed, a, _, h, hk => by rw [List.length_nil, Nat.zero_add]; exact hk a h
  | i :: is, listed, a, hB, h, hk => by
    simp only [quietB, Bool.and_eq_true] at hB
    obtain ⟨⟨⟨h1, h2⟩, h3⟩, h4⟩ := hB
    cases ho : ops[i]? with
    | none => simp [ho] at h1
    | some o =>
      simp only [ho] at h1
      have e : opsAt ops (i :: is) = o :: opsAt ops is := by simp [opsAt, ho]
      rw [e] at h
      have ih := fun a' (hq : wpQuiet P ops S K (opsAt ops is) a') => quiet_seg hsel hQ hS is (listed.setIfInBounds i true) a' h4 hq hk
      rw [List.length_cons, show is.length + 1 + f = (is.length + f) + 1 by omega]
      unfold wpQuiet at h
      by_cases hw : Region.wanted o (yielded ops a.tmps) = true
      · rw [if_pos hw] at h
        obtain ⟨v, hv, hn⟩ := h
        exact wpAnyH_take ho hsel h3 h2 (fun c a w => hQ c _ _ a w) (yields_of_quiet h1 hw hv) hS (ih _ hn)
      · rw [if_neg hw] at h
        exact wpAnyH_take ho hsel h3 h2 (fun c a w => hQ c _ _ a w) (.inr ⟨by simpa using hw, rfl⟩) hS (ih _ h)

theorem wp_endQ {o : Oper} {a : Act} {w : World} {K K' K2 : Act → World → Prop} (h : ∀ a w, K' a w → K a w) (hh : o.wp P a w K' (endQ Q K2)) : o.wp P a w K Q := by
  unfold Oper.wp at *
  generalize (execOp a.eval o).run P w = r at *
  cases r with
  | ok n w' =>
    cases n <;> simp only [Oper.upon] at hh ⊢ <;>
      first
        | exact h _ _ hh
        | (refine hh.mono fun e w'' hr => ?_; cases e with
            | returned u => exact h _ _ hr
            | panicked c => exact hr
            | outgrown => exact hr)
        | exact Rows.mono hh fun u w'' hr => h _ _ hr
  | halt x w' => cases x <;> simp only [Oper.upon] at hh ⊢ <;> exact hh

theorem plan_sound (hsel : Region.noSelect ops = true) (hQ : ∀ c d v a w, Q (.panic c) (Act.put a d v) w → Q (.panic c) a w) :
    ∀ (plan : List (List Nat × Nat)) (last : List Nat) (S : World → Prop) (listed : Array Bool) (a : Act) (w : World), planB md ops plan last listed = true → S w → wpPlan P ops Q S plan last a w →
      ∃ f, wpAnyH P md ops Q S f listed a w ∧ f = (plan.map fun x => x.1.length + 1).sum + last.length
  | [], last, S, listed, a, w, hB, hS, h => by
    simp only [planB, Bool.and_eq_true, List.isEmpty_iff] at hB
    refine ⟨_, ?_, rfl⟩
    simp only [List.map_nil, List.sum_nil, Nat.zero_add]
    have := quiet_seg (f := 0) hsel hQ hS last listed a hB.1 h (fun a' hq => ⟨hB.2, hq⟩)
    simpa using this
  | (qs, i) :: rest, last, S, listed, a, w, hB, hS, h => by
    simp only [planB, Bool.and_eq_true, decide_eq_true_eq] at hB
    obtain ⟨⟨⟨h1, h2⟩, h3⟩, h4⟩ := hB
    refine ⟨_, ?_, rfl⟩
    simp only [List.map_cons, List.sum_cons]
    generalize hg : (rest.map fun x => x.1.length + 1).sum + last.length = g
    have := quiet_seg (f := g + 1) hsel hQ hS qs listed a h1 h (fun a' hq => by
      obtain ⟨o, ho⟩ := Option.isSome_iff_exists.1 h3
      refine wpAnyH_all (rs := [i]) h2 (by simp) ?_
      intro j hj
      obtain rfl : j = i := by simpa using hj
      have e : opsAt ops [j] = [o] := by simp [opsAt, ho]
      rw [e] at hq
      unfold wpOp
      simp only [ho]
      unfold wpList at hq
      have next : ∀ a2 w2, (∃ S' : World → Prop, (∀ w, S' w → S w) ∧ S' w2 ∧ wpPlan P ops Q S' rest last a2 w2) → S w2 ∧ wpAnyH P md ops Q S g ((listAll qs listed).setIfInBounds j true) a2 w2 := by
        rintro a2 w2 ⟨S', hs, hS2, hp⟩
        obtain ⟨f', hf, hfe⟩ := plan_sound hsel hQ rest last S' _ a2 w2 h4 hS2 hp
        rw [hg] at hfe
        subst hfe
        exact ⟨hs _ hS2, wpAnyH_sub hs _ _ _ _ hf⟩
      by_cases hw : Region.wanted o (yielded ops a'.tmps) = true
      · rw [if_pos hw] at hq ⊢
        rcases hq with hq | hq
        · exact .inl (wp_endQ (fun a2 w2 h2 => next a2 w2 h2) hq)
        · exact .inr hq
      · rw [if_neg hw] at hq ⊢
        exact next _ _ hq)
    have e : qs.length + (g + 1) = qs.length + 1 + (rest.map fun x => x.1.length + 1).sum + last.length := by omega
    rw [e] at this
    exact this

/-- What stands behind the operations that only read: the one that comes up next. -/
def planMid (P : Program) (ops : Array Oper) (Q : Exit → Act → World → Prop) (S : World → Prop) (rest : List (List Nat × Nat)) (last : List Nat) (i : Nat) (w : World) (a' : Act) : Prop :=
  wpList P ops (endQ Q fun a2 w2 => ∃ S' : World → Prop, (∀ w, S' w → S w) ∧ S' w2 ∧ wpPlan P ops Q S' rest last a2 w2) (opsAt ops [i]) a' w
def planEnd (Q : Exit → Act → World → Prop) (w : World) (a' : Act) : Prop := Q .normal a' w

def OpsIs (ops : Array Oper) (is : List Nat) (l : List Oper) : Prop := opsAt ops is = l
theorem OpsIs.nil_ : OpsIs ops [] [] := rfl
theorem OpsIs.cons_ {i : Nat} {is : List Nat} {o : Oper} {l : List Oper} (h : ops[i]? = some o) (hl : OpsIs ops is l) : OpsIs ops (i :: is) (o :: l) := by
  unfold OpsIs at *
  rw [← hl]
  simp [opsAt, h]
theorem plan_seg {S : World → Prop} {qs : List Nat} {i : Nat} {rest : List (List Nat × Nat)} {last : List Nat} {a : Act} {w : World} {l : List Oper} (hl : OpsIs ops qs l) (h : wpQuiet P ops S (planMid P ops Q S rest last i w) l a) :
    wpPlan P ops Q S ((qs, i) :: rest) last a w := by unfold OpsIs at hl; subst hl; exact h
theorem plan_tail {S : World → Prop} {last : List Nat} {a : Act} {w : World} {l : List Oper} (hl : OpsIs ops last l) (h : wpQuiet P ops S (planEnd Q w) l a) : wpPlan P ops Q S [] last a w := by
  unfold OpsIs at hl; subst hl; exact h
theorem plan_next {S : World → Prop} {qs : List Nat} {i : Nat} {rest : List (List Nat × Nat)} {last : List Nat} {a : Act} {w : World} (h : wpQuiet P ops S (planMid P ops Q S rest last i w) (opsAt ops qs) a) :
    wpPlan P ops Q S ((qs, i) :: rest) last a w := h
theorem plan_last {S : World → Prop} {last : List Nat} {a : Act} {w : World} (h : wpQuiet P ops S (planEnd Q w) (opsAt ops last) a) : wpPlan P ops Q S [] last a w := h
theorem plan_one {S : World → Prop} {rest : List (List Nat × Nat)} {last : List Nat} {i : Nat} {w : World} {a : Act} {o : Oper} (ho : ops[i]? = some o)
    (h : wpList P ops (endQ Q fun a2 w2 => ∃ S' : World → Prop, (∀ w, S' w → S w) ∧ S' w2 ∧ wpPlan P ops Q S' rest last a2 w2) [o] a w) : planMid P ops Q S rest last i w a := by
  unfold planMid
  rw [show opsAt ops [i] = [o] by simp [opsAt, ho]]
  exact h
/-- The class stays as it is. -/
theorem plan_same {S : World → Prop} {rest : List (List Nat × Nat)} {last : List Nat} {a : Act} {w : World} (hS : S w) (h : wpPlan P ops Q S rest last a w) :
    endQ Q (fun a2 w2 => ∃ S' : World → Prop, (∀ w, S' w → S w) ∧ S' w2 ∧ wpPlan P ops Q S' rest last a2 w2) .normal a w := ⟨S, fun _ h => h, hS, h⟩

/-- **A region that draws its order, walked by a plan.** -/
theorem wp_region_plan {id : Nat} {a : Act} {w : World} (S : World → Prop) (plan : List (List Nat × Nat)) (last : List Nat) (hm : P.follows .mixedOrders = true) (hsel : Region.noSelect ops = true)
    (hn : (plan.map fun x => x.1.length + 1).sum + last.length = ops.size) (hB : planB .any ops plan last (Array.replicate ops.size false) = true)
    (hQ : ∀ c d v a w, Q (.panic c) (Act.put a d v) w → Q (.panic c) a w) (hS : S w.drew) (h : wpPlan P ops Q S plan last a w.drew) : (Code.region id ops true).wp P Q a w := by
  obtain ⟨f, hf, rfl⟩ := plan_sound (md := .any) hsel hQ plan last S _ a w.drew hB hS h
  rw [hn] at hf
  exact wp_region_held (S := S) hm hf
end
end Go.Dio

namespace Go.Dio
open Go

/-- What only reads first; then each of the operations that may come up, with a tree of its own. -/
inductive PTree where
  | done (last : List Nat)
  | one (qs : List Nat) (i : Nat) (t : PTree)
  | two (qs : List Nat) (i : Nat) (t : PTree) (j : Nat) (u : PTree)

section
variable {P : Program} {ops : Array Oper} {md : Region.Mode} {Q : Exit → Act → World → Prop}

def treeB (md : Region.Mode) (ops : Array Oper) : PTree → Array Bool → Bool
  | .done last, l => quietB md ops last l && (Region.ready md ops (listAll last l)).isEmpty
  | .one qs i t, l => quietB md ops qs l && decide (Region.ready md ops (listAll qs l) = [i]) && (ops[i]?).isSome && treeB md ops t ((listAll qs l).setIfInBounds i true)
  | .two qs i t j u, l => quietB md ops qs l && decide (Region.ready md ops (listAll qs l) = [i, j]) && (ops[i]?).isSome && (ops[j]?).isSome && treeB md ops t ((listAll qs l).setIfInBounds i true) && treeB md ops u ((listAll qs l).setIfInBounds j true)
def treeN : PTree → Nat
  | .done last => last.length
  | .one qs _ t => qs.length + 1 + treeN t
  | .two qs _ t _ u => qs.length + 1 + max (treeN t) (treeN u)

def wpTree (P : Program) (ops : Array Oper) (Q : Exit → Act → World → Prop) (S : World → Prop) : PTree → Act → World → Prop
  | .done last, a, w => wpQuiet P ops S (fun a' => Q .normal a' w) (opsAt ops last) a
  | .one qs i t, a, w => wpQuiet P ops S (fun a' => wpList P ops (endQ Q fun a2 w2 => S w2 ∧ wpTree P ops Q S t a2 w2) (opsAt ops [i]) a' w) (opsAt ops qs) a
  | .two qs i t j u, a, w => wpQuiet P ops S (fun a' => wpList P ops (endQ Q fun a2 w2 => S w2 ∧ wpTree P ops Q S t a2 w2) (opsAt ops [i]) a' w ∧ wpList P ops (endQ Q fun a2 w2 => S w2 ∧ wpTree P ops Q S u a2 w2) (opsAt ops [j]) a' w) (opsAt ops qs) a

theorem wpAnyH_succ {S : World → Prop} : ∀ (f : Nat) (listed : Array Bool) (a : Act) (w : World), wpAnyH P md ops Q S f listed a w → wpAnyH P md ops Q S (f + 1) listed a w
  | 0, _, _, _, h => ⟨fun _ => h.2, by rw [h.1]; simp⟩
  | f + 1, _, _, _, h => ⟨h.1, fun i hi => wpOp_mono (fun a' w' h' => ⟨h'.1, wpAnyH_succ f _ a' w' h'.2⟩) (h.2 i hi)⟩
theorem wpAnyH_more {S : World → Prop} {f : Nat} {listed : Array Bool} {a : Act} {w : World} (h : wpAnyH P md ops Q S f listed a w) : ∀ g, wpAnyH P md ops Q S (f + g) listed a w
  | 0 => h
  | g + 1 => wpAnyH_succ _ _ _ _ (wpAnyH_more h g)
theorem wpAnyH_le {S : World → Prop} {f g : Nat} {listed : Array Bool} {a : Act} {w : World} (h : wpAnyH P md ops Q S f listed a w) (hg : f ≤ g) : wpAnyH P md ops Q S g listed a w := by
  obtain ⟨k, rfl⟩ := Nat.exists_eq_add_of_le hg
  exact wpAnyH_more h k

theorem tree_op {S : World → Prop} {i f : Nat} {o : Oper} {l : Array Bool} {a : Act} {w : World} (ho : ops[i]? = some o) {F : Act → World → Prop}
    (hF : ∀ a2 w2, F a2 w2 → S w2 ∧ wpAnyH P md ops Q S f (l.setIfInBounds i true) a2 w2) (h : wpList P ops (endQ Q F) (opsAt ops [i]) a w) :
    wpOp P ops Q i (fun a' w' => S w' ∧ wpAnyH P md ops Q S f (l.setIfInBounds i true) a' w') a w := by
  rw [show opsAt ops [i] = [o] by simp [opsAt, ho]] at h
  unfold wpOp
  simp only [ho]
  unfold wpList at h
  by_cases hw : Region.wanted o (yielded ops a.tmps) = true
  · rw [if_pos hw] at h ⊢
    rcases h with h | h
    · exact .inl (wp_endQ (fun a2 w2 h2 => hF a2 w2 h2) h)
    · exact .inr h
  · rw [if_neg hw] at h ⊢
    exact hF _ _ h

theorem tree_sound {S : World → Prop} (hsel : Region.noSelect ops = true) (hQ : ∀ c d v a w, Q (.panic c) (Act.put a d v) w → Q (.panic c) a w) :
    ∀ (t : PTree) (listed : Array Bool) (a : Act) (w : World), treeB md ops t listed = true → S w → wpTree P ops Q S t a w → wpAnyH P md ops Q S (treeN t) listed a w
  | .done last, listed, a, w, hB, hS, h => by
    simp only [treeB, Bool.and_eq_true, List.isEmpty_iff] at hB
    have := quiet_seg (f := 0) hsel hQ hS last listed a hB.1 h (fun a' hq => ⟨hB.2, hq⟩)
    simpa [treeN] using this
  | .one qs i t, listed, a, w, hB, hS, h => by
    simp only [treeB, Bool.and_eq_true, decide_eq_true_eq] at hB
    obtain ⟨⟨⟨h1, h2⟩, h3⟩, h4⟩ := hB
    obtain ⟨o, ho⟩ := Option.isSome_iff_exists.1 h3
    have := quiet_seg (f := treeN t + 1) hsel hQ hS qs listed a h1 h (fun a' hq => by
      refine wpAnyH_all (rs := [i]) h2 (by simp) ?_
      intro j hj
      obtain rfl : j = i := by simpa using hj
      exact tree_op ho (fun a2 w2 hh => ⟨hh.1, tree_sound hsel hQ t _ a2 w2 h4 hh.1 hh.2⟩) hq)
    rw [show qs.length + (treeN t + 1) = treeN (.one qs i t) by simp only [treeN]; omega] at this
    exact this
  | .two qs i t j u, listed, a, w, hB, hS, h => by
    simp only [treeB, Bool.and_eq_true, decide_eq_true_eq] at hB
    obtain ⟨⟨⟨⟨⟨h1, h2⟩, h3⟩, h3'⟩, h4⟩, h5⟩ := hB
    obtain ⟨o, ho⟩ := Option.isSome_iff_exists.1 h3
    obtain ⟨o', ho'⟩ := Option.isSome_iff_exists.1 h3'
    have := quiet_seg (f := max (treeN t) (treeN u) + 1) hsel hQ hS qs listed a h1 h (fun a' hq => by
      refine wpAnyH_all (rs := [i, j]) h2 (by simp) ?_
      intro k hk
      simp only [List.mem_cons, List.not_mem_nil, or_false] at hk
      rcases hk with rfl | rfl
      · exact tree_op ho (fun a2 w2 hh => ⟨hh.1, wpAnyH_le (tree_sound hsel hQ t _ a2 w2 h4 hh.1 hh.2) (Nat.le_max_left _ _)⟩) hq.1
      · exact tree_op ho' (fun a2 w2 hh => ⟨hh.1, wpAnyH_le (tree_sound hsel hQ u _ a2 w2 h5 hh.1 hh.2) (Nat.le_max_right _ _)⟩) hq.2)
    rw [show qs.length + (max (treeN t) (treeN u) + 1) = treeN (.two qs i t j u) by simp only [treeN]; omega] at this
    exact this

/-- **A region that draws its order, walked by a tree.** -/
theorem wp_region_tree {id : Nat} {a : Act} {w : World} (S : World → Prop) (t : PTree) (hm : P.follows .mixedOrders = true) (hsel : Region.noSelect ops = true)
    (hn : treeN t ≤ ops.size) (hB : treeB .any ops t (Array.replicate ops.size false) = true)
    (hQ : ∀ c d v a w, Q (.panic c) (Act.put a d v) w → Q (.panic c) a w) (hS : S w.drew) (h : wpTree P ops Q S t a w.drew) : (Code.region id ops true).wp P Q a w :=
  wp_region_held (S := S) hm (wpAnyH_le (tree_sound (md := .any) hsel hQ t _ a w.drew hB hS h) hn)
theorem tree_one {S : World → Prop} {qs : List Nat} {i : Nat} {t : PTree} {a : Act} {w : World} (h : wpQuiet P ops S (fun a' => wpList P ops (endQ Q fun a2 w2 => S w2 ∧ wpTree P ops Q S t a2 w2) (opsAt ops [i]) a' w) (opsAt ops qs) a) : wpTree P ops Q S (.one qs i t) a w := h
theorem tree_two {S : World → Prop} {qs : List Nat} {i j : Nat} {t u : PTree} {a : Act} {w : World} (h : wpQuiet P ops S (fun a' => wpList P ops (endQ Q fun a2 w2 => S w2 ∧ wpTree P ops Q S t a2 w2) (opsAt ops [i]) a' w ∧ wpList P ops (endQ Q fun a2 w2 => S w2 ∧ wpTree P ops Q S u a2 w2) (opsAt ops [j]) a' w) (opsAt ops qs) a) : wpTree P ops Q S (.two qs i t j u) a w := h
theorem tree_done {S : World → Prop} {last : List Nat} {a : Act} {w : World} (h : wpQuiet P ops S (fun a' => Q .normal a' w) (opsAt ops last) a) : wpTree P ops Q S (.done last) a w := h
theorem tree_same {S : World → Prop} {t : PTree} {a : Act} {w : World} (hS : S w) (h : wpTree P ops Q S t a w) : endQ Q (fun a2 w2 => S w2 ∧ wpTree P ops Q S t a2 w2) .normal a w := ⟨hS, h⟩
theorem tree_op1 {i : Nat} {o : Oper} {K : Exit → Act → World → Prop} {a : Act} {w : World} (ho : ops[i]? = some o) (h : wpList P ops K [o] a w) : wpList P ops K (opsAt ops [i]) a w := by
  rw [show opsAt ops [i] = [o] by simp [opsAt, ho]]; exact h
end
end Go.Dio
