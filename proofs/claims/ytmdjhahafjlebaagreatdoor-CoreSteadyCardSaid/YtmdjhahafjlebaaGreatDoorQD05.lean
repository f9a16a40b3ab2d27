/- A region that draws its order, walked in parts: in each part a class of worlds of its own; what is to come behind a part waits for all of it. -/
import Derived.Test.YtmdjhahafjlebaaGreatDoorQD04
namespace Go.Dio
open Go

section
variable {P : Program} {ops : Array Oper} {md : Region.Mode} {Q : Exit → Act → World → Prop} {S : World → Prop}

/-- Whatever order is picked: S holds till all of E are listed; then K. -/
def wpSegH (P : Program) (md : Region.Mode) (ops : Array Oper) (Q : Exit → Act → World → Prop) (S : World → Prop) (E : Array Bool) (K : Act → World → Prop) : Nat → Array Bool → Act → World → Prop
  | 0, listed, a, w => S w ∧ listed = E ∧ K a w
  | f + 1, listed, a, w => S w ∧ ((listed = E ∧ K a w) ∨ (listed ≠ E ∧ Region.ready md ops listed ≠ [] ∧ ∀ i ∈ Region.ready md ops listed, wpOp P ops Q i (wpSegH P md ops Q S E K f (listed.setIfInBounds i true)) a w))

theorem wpSegH_S {E : Array Bool} {K : Act → World → Prop} : ∀ {f : Nat} {listed : Array Bool} {a : Act} {w : World}, wpSegH P md ops Q S E K f listed a w → S w
  | 0, _, _, _, h => h.1
  | _ + 1, _, _, _, h => h.1

theorem wpAny_succ : ∀ (f : Nat) (listed : Array Bool) (a : Act) (w : World), wpAny P md ops Q f listed a w → wpAny P md ops Q (f + 1) listed a w
  | 0, _, _, _, h => ⟨fun _ => h.2, by rw [h.1]; simp⟩
  | f + 1, _, _, _, h => ⟨h.1, fun i hi => wpOp_mono (fun a' w' h' => wpAny_succ f _ a' w' h') (h.2 i hi)⟩
theorem wpAny_more {f : Nat} {listed : Array Bool} {a : Act} {w : World} (h : wpAny P md ops Q f listed a w) : ∀ g, wpAny P md ops Q (g + f) listed a w
  | 0 => by rw [Nat.zero_add]; exact h
  | g + 1 => by rw [show g + 1 + f = (g + f) + 1 by omega]; exact wpAny_succ _ _ _ _ (wpAny_more h g)

theorem any_of_seg {E : Array Bool} {K : Act → World → Prop} {m : Nat} (hK : ∀ a w, K a w → wpAny P md ops Q m E a w) : ∀ (f : Nat) (listed : Array Bool) (a : Act) (w : World), wpSegH P md ops Q S E K f listed a w → wpAny P md ops Q (f + m) listed a w
  | 0, listed, a, w, h => by rw [Nat.zero_add, h.2.1]; exact hK a w h.2.2
  | f + 1, listed, a, w, h => by
    rcases h.2 with ⟨rfl, hk⟩ | ⟨_, hr, h⟩
    · exact wpAny_more (hK a w hk) _
    · rw [show f + 1 + m = (f + m) + 1 by omega]
      exact ⟨fun h0 => absurd h0 hr, fun i hi => wpOp_mono (fun a' w' h' => any_of_seg hK f _ a' w' h') (h i hi)⟩

/-- What is listed, all that it waits for is listed too. -/
def Closed (md : Region.Mode) (ops : Array Oper) (listed : Array Bool) : Prop :=
  ∀ j, listed.getD j false = true → ∀ o, ops[j]? = some o → ∀ e ∈ o.after, Region.binds md e = true → listed.getD e.on false = true
theorem Closed.set {listed : Array Bool} {i : Nat} (h : Closed md ops listed) (hr : i ∈ Region.ready md ops listed) : Closed md ops (listed.setIfInBounds i true) := by
  intro j hj o ho e he hb
  by_cases hji : i = j
  · subst hji
    obtain ⟨_, o', ho', hall⟩ := mem_ready.1 hr
    rw [ho] at ho'
    obtain rfl : o = o' := Option.some.inj ho'
    exact getD_set_true (hall e he hb)
  · rw [getD_set_ne false hji] at hj
    exact getD_set_true (h j hj o ho e he hb)
theorem Closed.start (n : Nat) : Closed md ops (Array.replicate n false) := by
  intro j hj
  rcases Nat.lt_or_ge j n with h | h
  · simp [h] at hj
  · simp [h] at hj

/-- What waits for i, by way of others too. -/
def depGo (md : Region.Mode) (i : Nat) : List Bool → List Oper → List Bool
  | D, [] => D
  | D, o :: os => depGo md i (D ++ [o.after.toList.any fun e => Region.binds md e && (decide (e.on = i) || D.getD e.on false)]) os
def Waits (md : Region.Mode) (ops : Array Oper) (listed : Array Bool) (j : Nat) : Prop := ∃ o, ops[j]? = some o ∧ ∃ e ∈ o.after, Region.binds md e = true ∧ listed.getD e.on false = false
theorem waits_off {listed : Array Bool} {j : Nat} (hc : Closed md ops listed) (h : Waits md ops listed j) : listed.getD j false = false := by
  obtain ⟨o, ho, e, he, hb, hl⟩ := h
  cases hj : listed.getD j false with
  | false => rfl
  | true => rw [hc j hj o ho e he hb] at hl; cases hl
theorem dep_ok {listed : Array Bool} {i : Nat} (hc : Closed md ops listed) (hi : listed.getD i false = false) : ∀ (os pre : List Oper) (D : List Bool), ops.toList = pre ++ os → D.length = pre.length → (∀ j, D.getD j false = true → Waits md ops listed j) →
    ∀ j, (depGo md i D os).getD j false = true → Waits md ops listed j
  | [], _, _, _, _, h, j, hj => h j hj
  | o :: os, pre, D, he, hl, h, j, hj => by
    refine dep_ok hc hi os (pre ++ [o]) _ (by rw [he]; simp) (by simp [hl]) (fun k hk => ?_) j hj
    rcases Nat.lt_trichotomy k D.length with hk1 | hk1 | hk1
    · refine h k ?_
      simp only [List.getD, List.getElem?_append_left hk1] at hk ⊢
      exact hk
    · subst hk1
      have ho : ops[D.length]? = some o := by
        rw [← Array.getElem?_toList, he, hl]
        simp
      simp only [List.getD, List.getElem?_concat_length, Option.getD_some, List.any_eq_true, Bool.and_eq_true, Bool.or_eq_true, decide_eq_true_eq] at hk
      obtain ⟨e, hem, hb, hd⟩ := hk
      refine ⟨o, ho, e, by simpa using hem, hb, ?_⟩
      rcases hd with hd | hd
      · rw [hd]; exact hi
      · exact waits_off hc (h e.on hd)
    · simp only [List.getD] at hk
      rw [List.getElem?_eq_none (by simp; omega)] at hk
      simp at hk

/-- Whatever is not of E waits for i. -/
def gateB (md : Region.Mode) (ops : Array Oper) (E : Array Bool) (i : Nat) : Bool :=
  E.getD i false && (let D := depGo md i [] ops.toList; (List.range ops.size).all fun j => E.getD j false || D.getD j false)

theorem wpSegH_first {E : Array Bool} {K : Act → World → Prop} {i : Nat} {oi : Oper} {v : Value} (hi : ops[i]? = some oi) (hsel : ∀ (j : Nat) (o : Oper) cs b, ops[j]? = some o → o.op ≠ .select cs b)
    (hQ : ∀ c a w, Q (.panic c) (a.put oi.dst v) w → Q (.panic c) a w) (hg : gateB md ops E i = true) :
    ∀ (fuel : Nat) (listed : Array Bool) (a : Act) (w : World), Closed md ops listed →
      (∀ j oj, ops[j]? = some oj → j ≠ i → listed.getD j true = false → (∀ e ∈ oj.after, Region.binds md e = true → e.on ≠ i) → oi.apart ops oj = true) →
      i ∈ Region.ready md ops listed → YieldsIf P ops S oi v a →
      wpSegH P md ops Q S E K fuel (listed.setIfInBounds i true) (a.put oi.dst v) w → wpSegH P md ops Q S E K (fuel + 1) listed a w := by
  simp only [gateB, Bool.and_eq_true, List.all_eq_true, List.mem_range] at hg
  obtain ⟨hEi, hgate⟩ := hg
  have off : ∀ {listed : Array Bool}, i ∈ Region.ready md ops listed → listed.getD i false = false := fun {listed} hr => by
    have h0 := (mem_ready.1 hr).1
    rcases Nat.lt_or_ge i listed.size with h' | h'
    · simp [h'] at h0 ⊢; exact h0
    · simp [Array.getElem?_eq_none h']
  have neE : ∀ {listed : Array Bool}, i ∈ Region.ready md ops listed → listed ≠ E := fun {listed} hr e => by
    have := off hr
    rw [e, hEi] at this
    cases this
  -- when i alone is left of E, nothing else is ready
  have last : ∀ {listed : Array Bool} {j : Nat}, Closed md ops listed → i ∈ Region.ready md ops listed → listed.setIfInBounds i true = E → j ∈ Region.ready md ops listed → j = i := fun {listed j} hc hr he hj => by
    by_cases hji : j = i
    · exact hji
    · exfalso
      obtain ⟨hjun, oj, hoj, hall⟩ := mem_ready.1 hj
      have hjE : E.getD j false = false := by
        have h1 := getD_set_ne (listed := listed) true (Ne.symm hji)
        rw [hjun, he] at h1
        rcases Nat.lt_or_ge j E.size with h' | h'
        · simp [h'] at h1 ⊢; exact h1
        · simp [Array.getElem?_eq_none h']
      have hjs : j < ops.size := (Array.getElem?_eq_some_iff.1 hoj).1
      have h2 := hgate j hjs
      rw [hjE, Bool.false_or] at h2
      obtain ⟨o', ho', e, hem, hb, hoff⟩ := dep_ok hc (off hr) ops.toList [] [] rfl rfl (fun k hk => by simp at hk) j h2
      rw [hoj] at ho'
      obtain rfl : oj = o' := Option.some.inj ho'
      rw [hall e hem hb] at hoff
      cases hoff
  intro fuel
  induction fuel with
  | zero =>
    intro listed a w hc _ hr hy H
    obtain ⟨hS, hE, hK⟩ := H
    refine ⟨hS, .inr ⟨neE hr, fun h => (by rw [h] at hr; cases hr), fun j hj => ?_⟩⟩
    obtain rfl := last hc hr hE hj
    exact hy.wpOp hi hS ⟨hS, hE, hK⟩
  | succ fuel ih =>
    intro listed a w hc hfree hr hy H
    have hS := wpSegH_S H
    refine ⟨hS, .inr ⟨neE hr, fun h => (by rw [h] at hr; cases hr), fun j hj => ?_⟩⟩
    by_cases hji : j = i
    · subst hji; exact hy.wpOp hi hS H
    · rcases H.2 with ⟨hE, _⟩ | ⟨_, _, HH⟩
      · exact absurd (last hc hr hE hj) hji
      · have h1 := HH j (ready_mono hj hji)
        have hcj := hc.set hj
        obtain ⟨hjun, oj, hoj, hall⟩ := mem_ready.1 hj
        have hnot : ∀ e ∈ oj.after, Region.binds md e = true → e.on ≠ i := fun e he hb heq => by
          have h1 := hall e he hb
          rw [heq, off hr] at h1
          cases h1
        have h2 := wpOp_putIf hoj (hfree j oj hoj hji hjun hnot) (fun cs b => hsel i oi cs b hi) (fun cs b => hsel j oj cs b hoj) hQ hy h1
        have hfree' : ∀ k ok, ops[k]? = some ok → k ≠ i → (listed.setIfInBounds j true).getD k true = false →
            (∀ e ∈ ok.after, Region.binds md e = true → e.on ≠ i) → oi.apart ops ok = true := fun k ok hk hki hun hno => by
          refine hfree k ok hk hki ?_ hno
          by_cases hjk : j = k
          · subst hjk; exact hjun
          · rw [getD_set_ne true hjk] at hun; exact hun
        refine wpOp_mono (fun a' w' h3 => ih (listed.setIfInBounds j true) a' w' hcj hfree' (ready_mono hr (Ne.symm hji)) h3.1 ?_) h2
        rw [Array.setIfInBounds_comm _ _ hji]
        exact h3.2

/-- One part: what only reads, each as soon as it may; of the rest one at a time. -/
def segQuietB (md : Region.Mode) (ops : Array Oper) (E : Array Bool) : List Nat → Array Bool → Bool
  | [], _ => true
  | i :: is, listed => (match ops[i]? with | some o => plainOp o.op | none => false) && (Region.ready md ops listed).contains i && Region.free md ops listed i && gateB md ops E i && segQuietB md ops E is (listed.setIfInBounds i true)
def segB (md : Region.Mode) (ops : Array Oper) (E : Array Bool) : List (List Nat × Nat) → List Nat → Array Bool → Bool
  | [], last, listed => segQuietB md ops E last listed && decide (listAll last listed = E)
  | (qs, i) :: rest, last, listed => segQuietB md ops E qs listed && decide (Region.ready md ops (listAll qs listed) = [i]) && decide (listAll qs listed ≠ E) && (ops[i]?).isSome && segB md ops E rest last ((listAll qs listed).setIfInBounds i true)

/-- The walk of one part. -/
def wpPart (P : Program) (ops : Array Oper) (Q : Exit → Act → World → Prop) (S : World → Prop) (K : Act → World → Prop) : List (List Nat × Nat) → List Nat → Act → World → Prop
  | [], last, a, w => wpQuiet P ops S (fun a' => K a' w) (opsAt ops last) a
  | (qs, i) :: rest, last, a, w =>
    wpQuiet P ops S (fun a' => wpList P ops (endQ Q fun a2 w2 => S w2 ∧ wpPart P ops Q S K rest last a2 w2) (opsAt ops [i]) a' w) (opsAt ops qs) a

theorem part_quiet {E : Array Bool} {C K : Act → World → Prop} {F : Act → Prop} (hsel : Region.noSelect ops = true) (hQ : ∀ c d v a w, Q (.panic c) (Act.put a d v) w → Q (.panic c) a w) {f : Nat} {w : World} :
    ∀ (is : List Nat) (listed : Array Bool) (a : Act), Closed md ops listed → segQuietB md ops E is listed = true → wpQuiet P ops S F (opsAt ops is) a →
      (Closed md ops (listAll is listed) → ∀ a', F a' → wpSegH P md ops Q S E C f (listAll is listed) a' w) → wpSegH P md ops Q S E C (is.length + f) listed a w
  | [], listed, a, hc, _, h, hk => by rw [List.length_nil, Nat.zero_add]; exact hk hc a h
  | i :: is, listed, a, hc, hB, h, hk => by
    simp only [segQuietB, Bool.and_eq_true] at hB
    obtain ⟨⟨⟨⟨h1, h2⟩, h3⟩, h3'⟩, h4⟩ := hB
    cases ho : ops[i]? with
    | none => simp [ho] at h1
    | some o =>
      simp only [ho] at h1
      have e : opsAt ops (i :: is) = o :: opsAt ops is := by simp [opsAt, ho]
      rw [e] at h
      have ih := fun a' (hq : wpQuiet P ops S F (opsAt ops is) a') => part_quiet (K := K) (C := C) hsel hQ is (listed.setIfInBounds i true) a' (hc.set (by simpa using h2)) h4 hq hk
      rw [List.length_cons, show is.length + 1 + f = (is.length + f) + 1 by omega]
      unfold wpQuiet at h
      by_cases hw : Region.wanted o (yielded ops a.tmps) = true
      · rw [if_pos hw] at h
        obtain ⟨v, hv, hn⟩ := h
        exact wpSegH_first ho (Region.noSelect_spec hsel) (fun c a w => hQ c _ _ a w) h3' _ listed a w hc (Region.free_spec ho h3) (by simpa using h2) (yields_of_quiet h1 hw hv) (ih _ hn)
      · rw [if_neg hw] at h
        exact wpSegH_first ho (Region.noSelect_spec hsel) (fun c a w => hQ c _ _ a w) h3' _ listed a w hc (Region.free_spec ho h3) (by simpa using h2) (.inr ⟨by simpa using hw, rfl⟩) (ih _ h)

theorem quiet_closed {E : Array Bool} : ∀ (is : List Nat) (listed : Array Bool), Closed md ops listed → segQuietB md ops E is listed = true → Closed md ops (listAll is listed)
  | [], _, hc, _ => hc
  | i :: is, listed, hc, hB => by
    simp only [segQuietB, Bool.and_eq_true] at hB
    exact quiet_closed is _ (hc.set (by simpa using hB.1.1.1.2)) hB.2
theorem seg_closed {E : Array Bool} : ∀ (plan : List (List Nat × Nat)) (last : List Nat) (listed : Array Bool), Closed md ops listed → segB md ops E plan last listed = true → Closed md ops E
  | [], last, listed, hc, hB => by
    simp only [segB, Bool.and_eq_true, decide_eq_true_eq] at hB
    rw [← hB.2]; exact quiet_closed last listed hc hB.1
  | (qs, i) :: rest, last, listed, hc, hB => by
    simp only [segB, Bool.and_eq_true, decide_eq_true_eq] at hB
    obtain ⟨⟨⟨⟨h1, h2⟩, _⟩, _⟩, h4⟩ := hB
    exact seg_closed rest last _ ((quiet_closed qs listed hc h1).set (by rw [h2]; simp)) h4

theorem part_sound {E : Array Bool} {K : Act → World → Prop} (hsel : Region.noSelect ops = true) (hQ : ∀ c d v a w, Q (.panic c) (Act.put a d v) w → Q (.panic c) a w) :
    ∀ (plan : List (List Nat × Nat)) (last : List Nat) (listed : Array Bool) (a : Act) (w : World), Closed md ops listed → segB md ops E plan last listed = true → S w → wpPart P ops Q S K plan last a w →
      wpSegH P md ops Q S E K ((plan.map fun x => x.1.length + 1).sum + last.length) listed a w
  | [], last, listed, a, w, hc, hB, hS, h => by
    simp only [segB, Bool.and_eq_true, decide_eq_true_eq] at hB
    simp only [List.map_nil, List.sum_nil, Nat.zero_add]
    have := part_quiet (K := K) (C := K) (f := 0) hsel hQ last listed a hc hB.1 h (fun _ a' hq => ⟨hS, hB.2, hq⟩)
    simpa using this
  | (qs, i) :: rest, last, listed, a, w, hc, hB, hS, h => by
    simp only [segB, Bool.and_eq_true, decide_eq_true_eq] at hB
    obtain ⟨⟨⟨⟨h1, h2⟩, h5⟩, h3⟩, h4⟩ := hB
    simp only [List.map_cons, List.sum_cons]
    generalize hg : (rest.map fun x => x.1.length + 1).sum + last.length = g
    have := part_quiet (K := K) (C := K) (f := g + 1) hsel hQ qs listed a hc h1 h (fun hcq a' hq => by
      obtain ⟨o, ho⟩ := Option.isSome_iff_exists.1 h3
      refine ⟨hS, .inr ⟨h5, by rw [h2]; simp, ?_⟩⟩
      intro j hj
      rw [h2] at hj
      obtain rfl : j = i := by simpa using hj
      have hcj := hcq.set (i := j) (by rw [h2]; simp)
      have e : opsAt ops [j] = [o] := by simp [opsAt, ho]
      rw [e] at hq
      unfold wpOp
      simp only [ho]
      unfold wpList at hq
      have next : ∀ a2 w2, (S w2 ∧ wpPart P ops Q S K rest last a2 w2) → wpSegH P md ops Q S E K g ((listAll qs listed).setIfInBounds j true) a2 w2 := by
        rintro a2 w2 ⟨hS2, hp⟩
        have := part_sound hsel hQ rest last _ a2 w2 hcj h4 hS2 hp
        rw [hg] at this
        exact this
      by_cases hw : Region.wanted o (yielded ops a'.tmps) = true
      · rw [if_pos hw] at hq ⊢
        rcases hq with hq | hq
        · exact .inl (wp_endQ (fun a2 w2 h2 => next a2 w2 h2) hq)
        · exact .inr hq
      · rw [if_neg hw] at hq ⊢
        exact next _ _ hq)
    have e : qs.length + (g + 1) = qs.length + 1 + (rest.map fun x => x.1.length + 1).sum + last.length := by omega
    rw [e] at this
    exact this

def endOf : List (List Nat × Nat) → List Nat → Array Bool → Array Bool
  | [], last, listed => listAll last listed
  | (qs, i) :: rest, last, listed => endOf rest last ((listAll qs listed).setIfInBounds i true)
def segsB (md : Region.Mode) (ops : Array Oper) : List (List (List Nat × Nat) × List Nat) → Array Bool → Bool
  | [], listed => (Region.ready md ops listed).isEmpty
  | (plan, last) :: rest, listed => segB md ops (endOf plan last listed) plan last listed && segsB md ops rest (endOf plan last listed)
def segsN : List (List (List Nat × Nat) × List Nat) → Nat
  | [] => 0
  | (plan, last) :: rest => (plan.map fun x => x.1.length + 1).sum + last.length + segsN rest

/-- The walk of all parts, each in a class of its own. -/
def wpSegs (P : Program) (ops : Array Oper) (Q : Exit → Act → World → Prop) : List (List (List Nat × Nat) × List Nat) → Act → World → Prop
  | [], a, w => Q .normal a w
  | (plan, last) :: rest, a, w => ∃ S : World → Prop, S w ∧ wpPart P ops Q S (wpSegs P ops Q rest) plan last a w

theorem segs_sound (hsel : Region.noSelect ops = true) (hQ : ∀ c d v a w, Q (.panic c) (Act.put a d v) w → Q (.panic c) a w) :
    ∀ (parts : List (List (List Nat × Nat) × List Nat)) (listed : Array Bool) (a : Act) (w : World), Closed md ops listed → segsB md ops parts listed = true → wpSegs P ops Q parts a w → wpAny P md ops Q (segsN parts) listed a w
  | [], listed, a, w, _, hB, h => by
    simp only [segsB, List.isEmpty_iff] at hB
    exact ⟨hB, h⟩
  | (plan, last) :: rest, listed, a, w, hc, hB, h => by
    simp only [segsB, Bool.and_eq_true] at hB
    obtain ⟨S, hS, hp⟩ := h
    exact any_of_seg (fun a' w' hk => segs_sound hsel hQ rest _ a' w' (seg_closed plan last listed hc hB.1) hB.2 hk) _ _ _ _ (part_sound hsel hQ plan last listed a w hc hB.1 hS hp)

/-- **A region that draws its order, walked part by part.** -/
theorem wp_region_segs {id : Nat} {a : Act} {w : World} (parts : List (List (List Nat × Nat) × List Nat)) (hm : P.follows .mixedOrders = true) (hsel : Region.noSelect ops = true)
    (hn : segsN parts = ops.size) (hB : segsB .any ops parts (Array.replicate ops.size false) = true)
    (hQ : ∀ c d v a w, Q (.panic c) (Act.put a d v) w → Q (.panic c) a w) (h : wpSegs P ops Q parts a w.drew) : (Code.region id ops true).wp P Q a w := by
  have := segs_sound (md := .any) hsel hQ parts _ a w.drew (Closed.start _) hB h
  rw [hn] at this
  exact wp_region_any hm this

/-! The steps of a walk. -/
theorem segs_part {plan : List (List Nat × Nat)} {last : List Nat} {rest : List (List (List Nat × Nat) × List Nat)} {a : Act} {w : World} (S : World → Prop) (hS : S w) (h : wpPart P ops Q S (wpSegs P ops Q rest) plan last a w) : wpSegs P ops Q ((plan, last) :: rest) a w := ⟨S, hS, h⟩
theorem segs_end {a : Act} {w : World} (h : Q .normal a w) : wpSegs P ops Q [] a w := h
/-- What stands behind the operations that only read. -/
def partMid (P : Program) (ops : Array Oper) (Q : Exit → Act → World → Prop) (S : World → Prop) (K : Act → World → Prop) (rest : List (List Nat × Nat)) (last : List Nat) (i : Nat) (w : World) (a' : Act) : Prop :=
  wpList P ops (endQ Q fun a2 w2 => S w2 ∧ wpPart P ops Q S K rest last a2 w2) (opsAt ops [i]) a' w
def partEnd (K : Act → World → Prop) (w : World) (a' : Act) : Prop := K a' w
theorem part_next {K : Act → World → Prop} {qs : List Nat} {i : Nat} {rest : List (List Nat × Nat)} {last : List Nat} {a : Act} {w : World} (h : wpQuiet P ops S (partMid P ops Q S K rest last i w) (opsAt ops qs) a) : wpPart P ops Q S K ((qs, i) :: rest) last a w := h
theorem part_last {K : Act → World → Prop} {last : List Nat} {a : Act} {w : World} (h : wpQuiet P ops S (partEnd K w) (opsAt ops last) a) : wpPart P ops Q S K [] last a w := h
theorem part_one {K : Act → World → Prop} {rest : List (List Nat × Nat)} {last : List Nat} {i : Nat} {w : World} {a : Act} {o : Oper} (ho : ops[i]? = some o)
    (h : wpList P ops (endQ Q fun a2 w2 => S w2 ∧ wpPart P ops Q S K rest last a2 w2) [o] a w) : partMid P ops Q S K rest last i w a := by
  unfold partMid
  rw [show opsAt ops [i] = [o] by simp [opsAt, ho]]
  exact h
theorem part_same {K : Act → World → Prop} {rest : List (List Nat × Nat)} {last : List Nat} {a : Act} {w : World} (hS : S w) (h : wpPart P ops Q S K rest last a w) :
    endQ Q (fun a2 w2 => S w2 ∧ wpPart P ops Q S K rest last a2 w2) .normal a w := ⟨hS, h⟩
end
end Go.Dio
