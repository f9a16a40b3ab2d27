/- The cycles of a core in which nothing is turned (pure). -/
import Derived.Test.YtmdjhahafjlebaaGreatDoorQD45
namespace Go.Proofs.YtmdjhahafjlebaaGreatDoor
open Go.RowKit Go.Dio
set_option linter.unusedSimpArgs false
set_option linter.unusedVariables false set_option linter.unusedSectionVars false

structure MemOk (m : List Nat) : Prop where
  len : m.length = 1024
  lt : ∀ x ∈ m, x < 2 ^ 32
theorem MemOk.at {m : List Nat} (h : MemOk m) (i : Nat) : nth m i < 2 ^ 32 := nth_lt h.lt (by decide) i
theorem fetchP_ok {p : Nat} (h : (fetchP p).2 = false) : p % 4 = 0 ∧ p < 4096 := by
  unfold fetchP at h
  by_cases h1 : p % 4 ≠ 0
  · rw [if_pos h1] at h; cases h
  · rw [if_neg h1] at h
    by_cases h2 : 4096 ≤ p
    · rw [if_pos h2] at h; cases h
    · omega
theorem fetchP_c (p : Nat) : (fetchP p).1 < 2 ^ 32 := by unfold fetchP; split <;> (try split) <;> decide
theorem memoLd_ok (m : List Nat) {a : Nat} (h : a % 4 = 0) (h2 : a < 4096) : memoLd m a = ((nth m (a / 4), true), m) := by unfold memoLd; rw [if_pos ⟨h, h2⟩]
def goA (R : List Nat) (i : InstV) : Nat := if (readsP i).1 = true then nth R i.r1 else 0
def goB (R : List Nat) (i : InstV) : Nat := if (readsP i).2 = true then nth R i.r2 else 0
def goN (m : List Nat) (i : InstV) (a : Nat) : Nat := if ldB i a = true then nth m (ldA i a / 4) else 0
/-- What a core makes of a word. -/
def madeC (p : Nat) (R C m : List Nat) (w : Nat) : MadeV := doP p w (goA R (decodeP w)) (goB R (decodeP w)) C (goN m (decodeP w) (goA R (decodeP w)))
theorem ldB_ok {D : InstV} {a : Nat} (h : ldB D a = true) : ldA D a % 4 = 0 ∧ ldA D a < 4096 ∧ 11 ≤ D.op ∧ D.op ≤ 15 ∧ (accessP D.op (u32 ((a : Int) + D.imm))).2 = false := by
  unfold ldB at h
  rw [Bool.and_eq_true, decide_eq_true_eq] at h
  have h2 : (accessP D.op (u32 ((a : Int) + D.imm))).2 = false := by simpa using h.2
  have := access_in h2 h.1.1 h.1.2
  unfold ldA low2
  exact ⟨by omega, by omega, h.1.1, h.1.2, h2⟩
section
variable {p : Nat} {R C m : List Nat} (g : Gd p R C) (mo : MemOk m) (ff fa cf ca : Nat)
include g
theorem goA_lt (i : InstV) : goA R i < 2 ^ 32 := by unfold goA; split; exact nth_lt g.rlt (by decide) _; decide
theorem goB_lt (i : InstV) : goB R i < 2 ^ 32 := by unfold goB; split; exact nth_lt g.rlt (by decide) _; decide
theorem gold_trap (hb : (fetchP p).2 = true) (ha : fa < 31) (hc : ca < 6) :
    coCycle memoLd (gold p R C z4 ff fa cf ca) m = ((trapP p C (fetchP p).1 p).r, 1, (gold p R C z4 ff ((fa + 1) % 31) cf ((ca + 1) % 6)).fin (trapP p C (fetchP p).1 p), m) := by
  obtain ⟨h1, h2⟩ := gold_scr g z4 ff fa cf ca ha hc
  obtain ⟨s1, s2, s3, s4⟩ := gold_seen g z4 ff ((fa + 1) % 31) cf ((ca + 1) % 6)
  unfold coCycle
  rw [if_neg (by rw [right_z4]; decide), if_neg (by rw [h2]; decide), h1, if_pos (show pget (nth (gold p R C z4 ff fa cf ca).ll 0) = 0 from (show pget 0 = 0 by decide))]
  unfold coFetch
  rw [s2, s1, s3, s4, if_neg (by decide), if_pos hb]
  rfl
theorem gold_fetch (hb : (fetchP p).2 = false) (ha : fa < 31) (hc : ca < 6) :
    coCycle memoLd (gold p R C z4 ff fa cf ca) m = (zR, 0, gold p R C (lat (nth m (p / 4)) (nth [0, 8, 34] (slowP (decodeP (nth m (p / 4)))))) ff ((fa + 1) % 31) cf ((ca + 1) % 6), m) := by
  obtain ⟨h1, h2⟩ := gold_scr g z4 ff fa cf ca ha hc
  obtain ⟨s1, s2, s3, s4⟩ := gold_seen g z4 ff ((fa + 1) % 31) cf ((ca + 1) % 6)
  obtain ⟨a1, a2⟩ := fetchP_ok hb
  unfold coCycle
  rw [if_neg (by rw [right_z4]; decide), if_neg (by rw [h2]; decide), h1, if_pos (show pget (nth (gold p R C z4 ff fa cf ca).ll 0) = 0 from (show pget 0 = 0 by decide))]
  unfold coFetch
  rw [s2, s3, if_neg (by decide), if_neg (by rw [hb]; decide)]
  unfold coLoad
  rw [s1, s3, memoLd_ok m a1 a2, if_neg (fun h => Bool.noConfusion h)]
  rfl
theorem gold_wait (w c : Nat) (hw : w < 2 ^ 32) (h0 : 0 < c) (h40 : c ≤ 40) (ha : fa < 31) (hc : ca < 6) :
    coCycle memoLd (gold p R C (lat w c) ff fa cf ca) m = (zR, 0, gold p R C (lat w (c - 1)) ff ((fa + 1) % 31) cf ((ca + 1) % 6), m) := by
  obtain ⟨h1, h2⟩ := gold_scr g (lat w c) ff fa cf ca ha hc
  have e0 : pget (nth (gold p R C (lat w c) ff fa cf ca).ll 0) = 1 := pget_pput (by decide)
  have e1 : pget (nth (gold p R C (lat w c) ff fa cf ca).ll 1) = c := pget_pput (by omega)
  unfold coCycle
  rw [if_neg (by rw [right_lat p R C w c ff fa cf ca hw h40]; decide), if_neg (by rw [h2]; decide), h1, e0, if_neg (by decide), e1, if_pos h0]
  rfl
include mo in
theorem gold_do (w : Nat) (hw : w < 2 ^ 32) (ha : fa < 31) (hc : ca < 6) :
    coCycle memoLd (gold p R C (lat w 0) ff fa cf ca) m = ((madeC p R C m w).r, 1, (gold p R C (lat w 0) ff ((fa + 1) % 31) cf ((ca + 1) % 6)).fin (madeC p R C m w), m) := by
  obtain ⟨h1, h2⟩ := gold_scr g (lat w 0) ff fa cf ca ha hc
  have e0 : pget (nth (gold p R C (lat w 0) ff fa cf ca).ll 0) = 1 := pget_pput (by decide)
  have e1 : pget (nth (gold p R C (lat w 0) ff fa cf ca).ll 1) = 0 := pget_pput (by decide)
  unfold coCycle
  rw [if_neg (by rw [right_lat p R C w 0 ff fa cf ca hw (by decide)]; decide), if_neg (by rw [h2]; decide), h1, e0, if_neg (by decide), e1, if_neg (by decide)]
  generalize (fa + 1) % 31 = fa
  generalize (ca + 1) % 6 = ca
  obtain ⟨s1, s2, s3, s4⟩ := gold_seen g (lat w 0) ff fa cf ca
  have e2 : pget (nth (gold p R C (lat w 0) ff fa cf ca).ll 2) = w := pget_pput hw
  unfold coDo
  rw [s2, s1, s3, s4, if_neg (by decide), e2]
  have wf := decodeP_wf w
  have hgo : ∀ a b, coGo memoLd (gold p R C (lat w 0) ff fa cf ca) p w a b C m = coEnd (gold p R C (lat w 0) ff fa cf ca) (doP p w a b C (goN m (decodeP w) a)) m := fun a b => by
    unfold coGo goN
    by_cases hl : ldB (decodeP w) a = true
    · obtain ⟨l1, l2, _⟩ := ldB_ok hl
      rw [if_pos hl, if_pos hl, memoLd_ok m l1 l2, if_neg (fun h => Bool.noConfusion h)]
    · rw [if_neg hl, if_neg hl]
  obtain ⟨r1, r2, r3⟩ := gold_rd g (decodeP w).r1 wf.2.2.1
  obtain ⟨t1, t2, t3⟩ := gold_rd g (decodeP w).r2 wf.2.2.2.1
  have rr1 := gold_rr g (lat w 0) ff fa cf ca (decodeP w).r1 wf.2.2.1
  have rr2 := gold_rr g (lat w 0) ff fa cf ca (decodeP w).r2 wf.2.2.2.1
  have q1 : rdV (gold p R C (lat w 0) ff fa cf ca).fl (((decodeP w).r1 : Nat) : Int) = (nth R (decodeP w).r1, 0) := r1
  have q2 : rdV (gold p R C (lat w 0) ff fa cf ca).fl (((decodeP w).r2 : Nat) : Int) = (nth R (decodeP w).r2, 0) := t1
  cases d2 : (readsP (decodeP w)).2
  · cases d1 : (readsP (decodeP w)).1
    · rw [coArgs_00 memoLd _ _ _ _ _ _ d1 d2, hgo]
      unfold madeC goA goB
      rw [d1, d2]; rfl
    · rw [coArgs_10 memoLd _ _ _ _ _ _ d1 d2, q1, if_neg (fun h => absurd h (show ¬ (0 : Nat) = 2 by decide)), rr1, hgo]
      unfold madeC goA goB
      rw [d1, d2]; rfl
  · have d1 := reads_two d2
    rw [coArgs_11 memoLd _ _ _ _ _ _ d1 d2, rr1, q1, q2, if_neg (fun h => h.elim (fun h => absurd h (show ¬ (0 : Nat) = 2 by decide)) (fun h => absurd h (show ¬ (0 : Nat) = 2 by decide))), rr2, hgo]
    unfold madeC goA goB
    rw [d1, d2]; rfl
include mo in
theorem madeC_w (w : Nat) (hw : w < 2 ^ 32) : WGood (madeC p R C m w) :=
  do_w p w _ _ C _ ⟨g.clen, g.clt⟩ g.pc hw (goA_lt g _) (goB_lt g _) (by unfold goN; split; exact mo.at _; decide)
theorem trapC_w : WGood (trapP p C (fetchP p).1 p) := wtrap p _ p C ⟨g.clen, g.clt⟩ g.pc (fetchP_c p) g.pc
end
/-- Cycles till it is done. -/
def nextP {σ : Type} (ld : σ → Nat → (Nat × Bool) × σ) : Nat → CoS → σ → RetV × Bool × CoS × σ
  | 0, s, m => (zR, false, s, m)
  | n + 1, s, m => if (coCycle ld s m).2.1 = 1 then ((coCycle ld s m).1, true, (coCycle ld s m).2.2.1, (coCycle ld s m).2.2.2)
    else if (coCycle ld s m).2.1 ≠ 0 ∨ (coCycle ld s m).1 ≠ zR then (zR, false, (coCycle ld s m).2.2.1, (coCycle ld s m).2.2.2)
    else nextP ld n (coCycle ld s m).2.2.1 (coCycle ld s m).2.2.2
theorem next_done {σ : Type} {ld : σ → Nat → (Nat × Bool) × σ} {n : Nat} {s s' : CoS} {m m' : σ} {r : RetV} (h : coCycle ld s m = (r, 1, s', m')) : nextP ld (n + 1) s m = (r, true, s', m') := by
  rw [nextP, h]; rfl
theorem next_more {σ : Type} {ld : σ → Nat → (Nat × Bool) × σ} {n : Nat} {s s' : CoS} {m m' : σ} (h : coCycle ld s m = (zR, 0, s', m')) : nextP ld (n + 1) s m = nextP ld n s' m' := by
  rw [nextP, h, if_neg (fun h => absurd h (show ¬ (0 : Nat) = 1 by decide)), if_neg (fun hh => by rcases hh with h1 | h1 <;> exact h1 rfl)]
theorem next_lat {p : Nat} {R C m : List Nat} (g : Gd p R C) (mo : MemOk m) (ff cf w : Nat) (hw : w < 2 ^ 32) : ∀ c n fa ca, c < n → c ≤ 40 → fa < 31 → ca < 6 →
    ∃ fa' ca', fa' < 31 ∧ ca' < 6 ∧ nextP memoLd n (gold p R C (lat w c) ff fa cf ca) m = ((madeC p R C m w).r, true, (gold p R C z4 ff fa' cf ca').fin (madeC p R C m w), m)
  | 0, n + 1, fa, ca, _, _, ha, hc => ⟨(fa + 1) % 31, (ca + 1) % 6, Nat.mod_lt _ (by decide), Nat.mod_lt _ (by decide), next_done (gold_do g mo ff fa cf ca w hw ha hc)⟩
  | c + 1, n + 1, fa, ca, hn, h40, ha, hc => by
    obtain ⟨fa', ca', h1, h2, h3⟩ := next_lat g mo ff cf w hw c n ((fa + 1) % 31) ((ca + 1) % 6) (by omega) (by omega) (Nat.mod_lt _ (by decide)) (Nat.mod_lt _ (by decide))
    exact ⟨fa', ca', h1, h2, (next_more (gold_wait g ff fa cf ca w (c + 1) hw (by omega) h40 ha hc)).trans h3⟩
theorem cnt_40 (i : InstV) : nth [0, 8, 34] (slowP i) ≤ 34 := by unfold slowP; split <;> (try split) <;> decide
/-- What a step makes. -/
def madeQ (p : Nat) (R C m : List Nat) : MadeV := if (fetchP p).2 = true then trapP p C (fetchP p).1 p else madeC p R C m (nth m (p / 4))
theorem madeQ_w {p : Nat} {R C m : List Nat} (g : Gd p R C) (mo : MemOk m) : WGood (madeQ p R C m) := by
  unfold madeQ
  split
  · exact trapC_w g
  · exact madeC_w g mo _ (mo.at _)
theorem next_q {p : Nat} {R C m : List Nat} (g : Gd p R C) (mo : MemOk m) (ff fa cf ca : Nat) (ha : fa < 31) (hc : ca < 6) :
    ∃ fa' ca', fa' < 31 ∧ ca' < 6 ∧ nextP memoLd 56 (gold p R C z4 ff fa cf ca) m = ((madeQ p R C m).r, true, (gold p R C z4 ff fa' cf ca').fin (madeQ p R C m), m) := by
  unfold madeQ
  cases hb : (fetchP p).2
  · rw [if_neg (by decide)]
    obtain ⟨fa', ca', h1, h2, h3⟩ := next_lat g mo ff cf (nth m (p / 4)) (mo.at _) (nth [0, 8, 34] (slowP (decodeP (nth m (p / 4))))) 55 ((fa + 1) % 31) ((ca + 1) % 6) (by have := cnt_40 (decodeP (nth m (p / 4))); omega) (by have := cnt_40 (decodeP (nth m (p / 4))); omega) (Nat.mod_lt _ (by decide)) (Nat.mod_lt _ (by decide))
    exact ⟨fa', ca', h1, h2, (next_more (gold_fetch g ff fa cf ca hb ha hc)).trans h3⟩
  · rw [if_pos rfl]
    exact ⟨(fa + 1) % 31, (ca + 1) % 6, Nat.mod_lt _ (by decide), Nat.mod_lt _ (by decide), next_done (gold_trap g ff fa cf ca hb ha hc)⟩
theorem csrP_53 (pc w a a' : Nat) (cs : List Nat) (i : InstV) (h : 53 ≤ i.op) : csrP pc w a cs i = csrP pc w a' cs i := by
  unfold csrP csrN
  simp only [if_pos h]
theorem doI_53 (pc w a a' b b' : Nat) (cs : List Nat) (v v' : Nat) (i : InstV) (h : 53 ≤ i.op) : doI pc w a b cs v i = doI pc w a' b' cs v' i := by
  unfold doI
  rw [if_neg (by omega), if_neg (by omega), if_neg (by omega), if_neg (by omega), if_pos (by omega), if_neg (by omega), if_neg (by omega), if_neg (by omega), if_neg (by omega), if_pos (by omega), csrP_53 pc w a a' cs i h]
theorem doI_bad (pc w a b : Nat) (cs : List Nat) (v v' : Nat) (i : InstV) (h : 11 ≤ i.op ∧ i.op ≤ 15) (hb : (accessP i.op (u32 ((a : Int) + i.imm))).2 = true) : doI pc w a b cs v i = doI pc w a b cs v' i := by
  unfold doI
  rw [takenP_no i.op a b (by omega)]
  rw [if_neg (by omega), if_neg (by omega), if_neg (by omega), if_neg (by omega), if_neg (by omega), if_neg (by omega), if_neg (by omega), if_neg (by decide), if_pos (by omega), if_neg (by omega), if_neg (by omega), if_neg (by omega), if_neg (by omega), if_neg (by omega), if_neg (by omega), if_neg (by omega), if_neg (by decide), if_pos (by omega)]
  unfold moveP
  simp only [if_pos hb]
theorem goA_eq {R : List Nat} {i : InstV} (hu : U1 i.op) (h : i.op < 53) : goA R i = nth R i.r1 := by
  unfold goA
  rw [if_pos]
  unfold readsP
  unfold U1 at hu
  simp
  omega
theorem goB_eq {R : List Nat} {i : InstV} (hu : U2 i.op) : goB R i = nth R i.r2 := by
  unfold goB
  rw [if_pos]
  unfold readsP
  unfold U2 at hu
  simp
  omega
/-- A core makes what the machine makes. -/
theorem madeQ_eq (s : MSt) : madeQ s.pc s.regs s.csrs s.mem = madeP s := by
  unfold madeQ
  cases hb : (fetchP s.pc).2
  · rw [if_neg (by decide), madeP_ref s hb]
    unfold madeC
    rw [doP_eq]
    generalize nth s.mem (s.pc / 4) = w
    generalize decodeP w = i
    by_cases h53 : 53 ≤ i.op
    · exact doI_53 _ _ _ _ _ _ _ _ _ i h53
    · by_cases hl : 11 ≤ i.op ∧ i.op ≤ 15
      · have ea : goA s.regs i = nth s.regs i.r1 := goA_eq (.inl (by omega)) (by omega)
        rw [ea]
        have hc : doI s.pc w (nth s.regs i.r1) (goB s.regs i) s.csrs (goN s.mem i (nth s.regs i.r1)) i = doI s.pc w (nth s.regs i.r1) (nth s.regs i.r2) s.csrs (goN s.mem i (nth s.regs i.r1)) i := doI_cong _ _ _ _ _ _ _ _ _ i (fun _ => rfl) (fun hu => goB_eq hu) (fun _ => rfl)
        rw [hc]
        unfold goN
        cases hd : ldB i (nth s.regs i.r1)
        · rw [if_neg (by decide)]
          refine doI_bad _ _ _ _ _ _ _ i hl ?_
          unfold ldB at hd
          rw [decide_eq_true hl, Bool.true_and] at hd
          simpa using hd
        · rw [if_pos rfl]
          have e : ldA i (nth s.regs i.r1) / 4 = u32 (((nth s.regs i.r1 : Nat) : Int) + i.imm) / 4 := by unfold ldA low2; omega
          rw [e]
      · exact doI_cong _ _ _ _ _ _ _ _ _ i (fun hu => goA_eq hu (by omega)) (fun hu => goB_eq hu) (fun h => absurd h hl)
  · rw [if_pos rfl]
    unfold madeP
    rw [if_pos hb]
end Go.Proofs.YtmdjhahafjlebaaGreatDoor
