/- A plain machine: a new one. -/
import Derived.Test.YtmdjhahafjlebaaGreatDoorQD38

namespace Go.Proofs.YtmdjhahafjlebaaGreatDoor
open Go.RowKit Go.Dio
set_option linter.unusedSimpArgs false
set_option linter.unusedVariables false

def newS (ns : List Nat) : MSt := ⟨0, List.replicate 32 0, List.replicate 5 0, ns ++ List.replicate (1024 - ns.length) 0, [], false, 0, 0⟩
theorem newS_ok {ns : List Nat} (hl : ns.length ≤ 1024) (hs : ∀ x ∈ ns, x < 2 ^ 32) : MOk (newS ns) where
  regs := by simp [newS]
  csrs := by simp [newS]
  mem := by simp only [newS, List.length_append, List.length_replicate]; omega
  pc := by show 0 < 2 ^ 32; decide
  rlt := fun x hx => by obtain rfl := List.eq_of_mem_replicate (show x ∈ List.replicate 32 0 from hx); decide
  clt := fun x hx => by obtain rfl := List.eq_of_mem_replicate (show x ∈ List.replicate 5 0 from hx); decide
  mlt := fun x hx => by
    rcases List.mem_append.1 (show x ∈ ns ++ List.replicate (1024 - ns.length) 0 from hx) with h | h
    · exact hs x h
    · obtain rfl := List.eq_of_mem_replicate h; decide
  tlt := fun x hx => by cases hx
  code := by show 0 < 2 ^ 32; decide
theorem L_cpy2 {ops : Array Oper} {rest : List Oper} {o : Oper} {a : Act} {w : World} {Q : Exit → Act → World → Prop} (hgd : o.guard = none) (d s : Operand)
    (ho : o.op = .call { callee := .builtin .copy, args := #[d, s], argTypes := #[23, 23] }) (g n : Nat) (Z : List Nat) (hZ : Z = List.replicate n 0) (hd : a.eval d = .slice (some ⟨g, 0, none⟩) n n)
    (A : Option Addr) (m c : Nat) (l : List Nat) (hs : a.eval s = .slice A m c) (hm : l.length = m) (hA : NumsAt w .u32 A l) (hg : w.heap[g]? = some (.cells (nums .u32 Z) 36 (0, 0))) (hn : l.length ≤ n)
    (h : ∀ w', w'.heap[g]? = some (.cells (nums .u32 (l ++ List.replicate (n - l.length) 0)) 36 (0, 0)) → Upd [g] w w' → wpList Tryz.prog ops Q rest (a.put o.dst (goInt l.length)) w') :
    wpList Tryz.prog ops Q (o :: rest) a w := by
  subst hZ hm
  by_cases h0 : l.length = 0
  · obtain rfl : l = [] := List.eq_nil_of_length_eq_zero h0
    refine wpList_copy_nothing hgd d s 23 23 ho 36 Tryz.underlying23 (by kernel_rfl) (some ⟨g, 0, none⟩) A n n ([] : List Nat).length c hd hs (by simp) ?_
    exact h w (by simpa using hg) (Upd.refl _ _)
  · obtain ⟨b, o', hA', _, hc⟩ := hA (by omega)
    subst hA'
    have hh : (nums .u32 (List.replicate n 0)).size = n := by rw [nums_size, List.length_replicate]
    have hl : (vals .u32 l).length = l.length := vals_length _ _
    refine wpList_copy_own hgd d s 23 23 ho 36 Tryz.underlying23 (by kernel_rfl) g 0 n n ⟨b, o', none⟩ l.length c hd hs (nums .u32 (List.replicate n 0)) 36 hg (vals .u32 l) (by rw [hl]; exact (Nat.min_eq_left hn).symm) (fun j v hv => ?_) (by rw [hl, hh]; omega) (vals_one _ _) ?_
    · have hj : j < l.length := by have := (List.getElem?_eq_some_iff.1 hv).1; rwa [vals_length] at this
      rw [Addr.add_mid, hc j hj, ← hv, nth_eq l j hj]
      simp [vals, hj]
    · rw [hl]
      have hsp := splice_nums n l hn
      unfold splice at hsp
      rw [hl] at hsp
      refine h _ (by rw [setRow_heap _ _ _ _ _ _ hg]; first | rw [hsp] | skip) ⟨rfl, rfl, rfl, by simp [World.setRow], fun k hk hne => setRow_other _ _ _ _ (fun e => hne (by simp [e]))⟩
end Go.Proofs.YtmdjhahafjlebaaGreatDoor

namespace Go.Proofs.YtmdjhahafjlebaaGreatDoor
open Go.RowKit Go.Dio
set_option linter.unusedSimpArgs false
set_option linter.unusedVariables false

theorem nth_setN {l : List Nat} {i j v : Nat} (h : i ≠ j) : nth (l.set i v) j = nth l j := by simp [nth, List.getD, List.getElem?_set_ne h]
structure CsOk (cs : List Nat) : Prop where
  len : cs.length = 5
  lt : ∀ x ∈ cs, x < 2 ^ 32
  a0 : nth cs 0 % 4 = 0
  a2 : nth cs 2 % 4 = 0
theorem CsOk.at {cs : List Nat} (h : CsOk cs) (k : Nat) : nth cs k < 2 ^ 32 := nthB2 h.lt (by decide) k
theorem CsOk.set {cs : List Nat} (h : CsOk cs) (k n : Nat) (hn : n < 2 ^ 32) (h4 : k = 0 ∨ k = 2 → n % 4 = 0) : CsOk (cs.set k n) := by
  obtain ⟨a, b, c, d, e, rfl⟩ := csr5 h.len
  refine ⟨by simp, fun x hx => ?_, ?_, ?_⟩
  · rcases List.mem_or_eq_of_mem_set hx with h1 | rfl
    · exact h.lt x h1
    · exact hn
  · have := h.a0
    match k with
    | 0 => exact h4 (.inl rfl)
    | 1 => exact this
    | 2 => exact this
    | 3 => exact this
    | 4 => exact this
    | k + 5 => exact this
  · have := h.a2
    match k with
    | 0 => exact this
    | 1 => exact this
    | 2 => exact h4 (.inr rfl)
    | 3 => exact this
    | 4 => exact this
    | k + 5 => exact this
structure RGood (pc : Nat) (r : RetV) : Prop where
  pc : r.pc = (pc : Int)
  val : ∃ n : Nat, r.val = n ∧ n < 2 ^ 32
  rd : ∃ k : Nat, r.rd = k ∧ k < 32
  zero : r.rd = 0 → r.val = 0
  st : r.st = true → r.rd = 0 ∧ ∃ A d : Nat, r.addr = A ∧ r.data = d ∧ d < 2 ^ 32 ∧ A % 4 = 0 ∧ (A = 268435456 ∨ A = 268435460 ∨ A < 4096)
  no : r.st = false → r.addr = 0 ∧ r.data = 0 ∧ r.mask = 0
structure MGood (pc : Nat) (x : MadeV) : Prop where
  r : RGood pc x.r
  next : x.next < 2 ^ 32
  al : x.next % 4 = 0
  cs : CsOk x.csrs
theorem RGood.none (pc : Nat) : RGood pc ⟨(pc : Int), 0, 0, false, 0, 0, 0⟩ := ⟨rfl, ⟨0, rfl, by decide⟩, ⟨0, rfl, by decide⟩, fun _ => rfl, fun h => (by cases h), fun _ => ⟨rfl, rfl, rfl⟩⟩
theorem RGood.write (pc rd n : Nat) (hd : rd < 32) (hn : n < 2 ^ 32) : RGood pc (writeR pc rd n) := by
  unfold writeR
  by_cases h : rd = 0
  · rw [if_pos h]; exact RGood.none pc
  · rw [if_neg h]
    exact ⟨rfl, ⟨n, rfl, hn⟩, ⟨rd, rfl, hd⟩, fun h0 => absurd (show (rd : Int) = 0 from h0) (by exact_mod_cast h), fun h0 => (by cases h0), fun _ => ⟨rfl, rfl, rfl⟩⟩
theorem low2_lt {n : Nat} (h : n < 2 ^ 32) : low2 n < 2 ^ 32 := by unfold low2; omega
theorem low2_al (n : Nat) : low2 n % 4 = 0 := by unfold low2; omega
theorem pc4_al {pc : Nat} (h : pc % 4 = 0) : u32 ((pc : Int) + 4) % 4 = 0 := by unfold u32; omega
theorem trap_good (pc cause val : Nat) (cs : List Nat) (h : CsOk cs) (hp : pc < 2 ^ 32) (hc : cause < 2 ^ 32) (hv : val < 2 ^ 32) : MGood pc (trapP pc cs cause val) :=
  ⟨RGood.none pc, h.at 0, h.a0, ((h.set 2 _ (low2_lt hp) (fun _ => low2_al _)).set 3 _ hc (fun h => by omega)).set 4 _ hv (fun h => by omega)⟩
theorem jump_good (pc tg : Nat) (cs : List Nat) (i : InstV) (h : CsOk cs) (hp : pc < 2 ^ 32) (hv : tg < 2 ^ 32) (hd : i.rd < 32) : MGood pc (jumpP pc cs i tg) := by
  unfold jumpP
  by_cases ht : tg % 4 ≠ 0
  · rw [if_pos ht]; exact trap_good pc 0 tg cs h hp (by decide) hv
  · rw [if_neg ht]; exact ⟨RGood.write pc _ _ hd (u32_lt _), hv, by show tg % 4 = 0; omega, h⟩
theorem access_low {op addr : Nat} (h : (accessP op addr).2 = false) (h1 : 16 ≤ op) (h2 : op ≤ 18) : low2 addr = 268435456 ∨ low2 addr = 268435460 ∨ low2 addr < 4096 := by
  have hf := access_ok h ⟨by omega, h2⟩
  unfold accessP at h
  have hs : sizeP op ≠ 0 := by
    rcases (by omega : op = 16 ∨ op = 17 ∨ op = 18) with rfl | rfl | rfl <;> decide
  rw [if_neg hs, if_neg (by rw [hf]; decide)] at h
  unfold low2
  by_cases hc : addr < 4096 ∨ (op = 18 ∧ devP addr = true)
  · rcases hc with h | ⟨_, h⟩
    · omega
    · unfold devP at h
      simp only [Bool.or_eq_true, decide_eq_true_eq] at h
      omega
  · rw [if_neg hc] at h; cases h
theorem move_good (pc a b : Nat) (cs : List Nat) (i : InstV) (word : Nat) (h : CsOk cs) (hp : pc < 2 ^ 32) (h4 : pc % 4 = 0) (hb : b < 2 ^ 32) (hw : word < 2 ^ 32) (hd : i.rd < 32) (ho : 11 ≤ i.op ∧ i.op ≤ 18) : MGood pc (moveP pc a b cs i word) := by
  unfold moveP
  dsimp only
  by_cases ht : (accessP i.op (u32 ((a : Int) + i.imm))).2 = true
  · rw [if_pos ht]; exact trap_good pc _ _ cs h hp (accessP_lt _ _) (u32_lt _)
  · rw [if_neg ht]
    have hf : (accessP i.op (u32 ((a : Int) + i.imm))).2 = false := by simpa using ht
    by_cases hl : i.op ≤ 15
    · rw [if_pos hl]; exact ⟨RGood.write pc _ _ hd (loadP_lt _ _ _ hw), u32_lt ((pc : Int) + 4), pc4_al h4, h⟩
    · rw [if_neg hl]
      refine ⟨⟨rfl, ⟨0, rfl, by decide⟩, ⟨0, rfl, by decide⟩, fun _ => rfl, fun _ => ⟨rfl, _, _, rfl, rfl, storeD_lt _ _ _ hb ⟨by omega, ho.2⟩ (access_ok hf ho), low2_al _, access_low hf (by omega) ho.2⟩, fun h => (by cases h)⟩, ?_, ?_, h⟩
      · show (if _ then _ else _) < _
        split
        · exact hp
        · exact u32_lt _
      · show (if _ then _ else _) % _ = _
        split
        · exact h4
        · exact pc4_al h4
theorem csrN_lt (op r1 a old : Nat) (hr : r1 < 2 ^ 32) (ha : a < 2 ^ 32) (ho : old < 2 ^ 32) : csrN op r1 a old < 2 ^ 32 := by
  unfold csrN
  dsimp only
  have hn : (if 53 ≤ op then r1 else a) < 2 ^ 32 := by split <;> assumption
  split
  · exact ho
  · split
    · exact Nat.or_lt_two_pow hn ho
    · split
      · exact Nat.lt_of_le_of_lt Nat.and_le_left ho
      · exact hn
theorem csr_good (pc w a : Nat) (cs : List Nat) (i : InstV) (h : CsOk cs) (hp : pc < 2 ^ 32) (h4 : pc % 4 = 0) (hw : w < 2 ^ 32) (ha : a < 2 ^ 32) (hd : i.rd < 32) (hr : i.r1 < 32) : MGood pc (csrP pc w a cs i) := by
  unfold csrP
  by_cases hk : idxP i.imm < 0
  · rw [if_pos hk]; exact trap_good pc 2 w cs h hp (by decide) hw
  · rw [if_neg hk]
    dsimp only
    have hN := csrN_lt i.op i.r1 a (nth cs (idxP i.imm).toNat) (by omega) ha (h.at _)
    refine ⟨RGood.write pc _ _ hd (h.at _), u32_lt ((pc : Int) + 4), pc4_al h4, h.set _ _ ?_ (fun hk => ?_)⟩
    · split
      · exact low2_lt hN
      · exact hN
    · rw [if_pos hk]; exact low2_al _
theorem do_good (pc w a b : Nat) (cs : List Nat) (word : Nat) (h : CsOk cs) (hp : pc < 2 ^ 32) (h4 : pc % 4 = 0) (hw : w < 2 ^ 32) (ha : a < 2 ^ 32) (hb : b < 2 ^ 32) (hwd : word < 2 ^ 32) : MGood pc (doP pc w a b cs word) := by
  rw [doP_eq]
  have wf := decodeP_wf w
  generalize decodeP w = i at *
  obtain ⟨op, rd, r1, r2, imm⟩ := i
  obtain ⟨h55, hd, h1, h2, hi1, hi2⟩ := wf
  dsimp only at h55 hd h1 h2 hi1 hi2
  unfold doI
  dsimp only
  by_cases c1 : op = 0
  · rw [if_pos c1]; exact trap_good pc 2 w cs h hp (by decide) hw
  rw [if_neg c1]
  by_cases c2 : op = 47
  · rw [if_pos c2]; exact trap_good pc 11 0 cs h hp (by decide) (by decide)
  rw [if_neg c2]
  by_cases c3 : op = 48
  · rw [if_pos c3]; exact trap_good pc 3 0 cs h hp (by decide) (by decide)
  rw [if_neg c3]
  by_cases c4 : op = 49
  · rw [if_pos c4]; exact ⟨RGood.none pc, h.at 2, h.a2, h⟩
  rw [if_neg c4]
  by_cases c5 : 50 ≤ op
  · rw [if_pos c5]; exact csr_good pc w a cs ⟨op, rd, r1, r2, imm⟩ h hp h4 hw ha hd h1
  rw [if_neg c5]
  by_cases c6 : op = 3
  · rw [if_pos c6]; exact jump_good pc _ cs ⟨op, rd, r1, r2, imm⟩ h hp (u32_lt _) hd
  rw [if_neg c6]
  by_cases c7 : op = 4
  · rw [if_pos c7]; exact jump_good pc _ cs ⟨op, rd, r1, r2, imm⟩ h hp (by have := u32_lt ((a : Int) + imm); omega) hd
  rw [if_neg c7]
  by_cases c8 : takenP op a b = true
  · rw [if_pos c8]; exact jump_good pc _ cs ⟨op, rd, r1, r2, imm⟩ h hp (u32_lt _) hd
  rw [if_neg c8]
  by_cases c9 : 11 ≤ op ∧ op ≤ 18
  · rw [if_pos c9]; exact move_good pc a b cs ⟨op, rd, r1, r2, imm⟩ word h hp h4 hb hwd hd c9
  rw [if_neg c9]
  refine ⟨?_, u32_lt ((pc : Int) + 4), pc4_al h4, h⟩
  show RGood pc (if op = 1 then _ else _)
  by_cases d1 : op = 1
  · rw [if_pos d1]; exact RGood.write pc rd _ hd (u32_lt _)
  rw [if_neg d1]
  by_cases d2 : op = 2
  · rw [if_pos d2]; exact RGood.write pc rd _ hd (u32_lt _)
  rw [if_neg d2]
  by_cases d3 : 19 ≤ op ∧ op ≤ 27
  · rw [if_pos d3]; exact RGood.write pc rd _ hd (aluP_lt op _ _ ⟨d3.1, by omega⟩ ha (u32_lt _))
  rw [if_neg d3]
  by_cases d4 : 28 ≤ op ∧ op ≤ 45
  · rw [if_pos d4]; exact RGood.write pc rd _ hd (aluP_lt op _ _ ⟨by omega, d4.2⟩ ha hb)
  rw [if_neg d4]
  exact RGood.none pc
/-- What holds of a machine besides. -/
structure MInv (s : MSt) : Prop where
  ok : MOk s
  al : s.pc % 4 = 0
  cs : CsOk s.csrs
  z : nth s.regs 0 = 0
theorem made_good {s : MSt} (h : MInv s) : MGood s.pc (madeP s) := by
  unfold madeP
  split
  · refine trap_good s.pc _ _ _ h.cs h.ok.pc ?_ h.ok.pc
    unfold fetchP; split
    · decide
    · split <;> decide
  · exact do_good _ _ _ _ _ _ h.cs h.ok.pc h.al (nthB2 h.ok.mlt (by decide) _) (nthB2 h.ok.rlt (by decide) _) (nthB2 h.ok.rlt (by decide) _) (nthB2 h.ok.mlt (by decide) _)
theorem newS_inv {ns : List Nat} (hl : ns.length ≤ 1024) (hs : ∀ x ∈ ns, x < 2 ^ 32) : MInv (newS ns) :=
  ⟨newS_ok hl hs, rfl, ⟨rfl, (newS_ok hl hs).clt, rfl, rfl⟩, rfl⟩
/-- A machine after the registers, before the store. -/
def regS (s : MSt) : MSt := { s with pc := (madeP s).next, csrs := (madeP s).csrs, regs := if (madeP s).r.rd = 0 then s.regs else s.regs.set (madeP s).r.rd.toNat (madeP s).r.val.toNat, steps := s.steps + 1 }
theorem stepP_eq (s : MSt) (h : MInv s) (hh : s.halted = false) : stepP s = if (madeP s).r.st = true then stS (regS s) (madeP s).r.addr.toNat (madeP s).r.data.toNat (madeP s).r.mask else regS s := by
  unfold stepP
  rw [if_neg (by rw [hh]; decide)]
  dsimp only
  by_cases c : (madeP s).r.st = true
  · rw [if_pos c, if_pos c]
    have g := (made_good h).r.st c
    obtain ⟨_, A, d, hA, hd, _⟩ := g
    unfold stS regS
    dsimp only
    rw [hA, hd]
    simp only [Int.toNat_natCast]
    by_cases e1 : A = 268435456
    · rw [if_pos (by omega), if_pos e1]
    · rw [if_neg (by omega), if_neg e1]
      by_cases e2 : A = 268435460
      · rw [if_pos (by omega), if_pos e2]
      · rw [if_neg (by omega), if_neg e2]
  · rw [if_neg c, if_neg c]; rfl
theorem regS_inv {s : MSt} (h : MInv s) : MInv (regS s) := by
  have g := made_good h
  obtain ⟨n, hn, hn2⟩ := g.r.val
  obtain ⟨k, hk, hk2⟩ := g.r.rd
  by_cases h0 : (madeP s).r.rd = 0
  · have e : regS s = { s with pc := (madeP s).next, csrs := (madeP s).csrs, steps := s.steps + 1 } := by unfold regS; rw [if_pos h0]
    rw [e]
    exact ⟨⟨h.ok.regs, g.cs.len, h.ok.mem, g.next, h.ok.rlt, g.cs.lt, h.ok.mlt, h.ok.tlt, h.ok.code⟩, g.al, g.cs, h.z⟩
  · have e : regS s = { s with pc := (madeP s).next, csrs := (madeP s).csrs, regs := s.regs.set k n, steps := s.steps + 1 } := by unfold regS; rw [if_neg h0, hn, hk]; rfl
    rw [e]
    refine ⟨⟨by show (List.set _ _ _).length = _; rw [List.length_set]; exact h.ok.regs, g.cs.len, h.ok.mem, g.next, fun x hx => ?_, g.cs.lt, h.ok.mlt, h.ok.tlt, h.ok.code⟩, g.al, g.cs, ?_⟩
    · rcases List.mem_or_eq_of_mem_set hx with h1 | rfl
      · exact h.ok.rlt x h1
      · exact hn2
    · show nth (s.regs.set k n) 0 = 0
      rw [nth_setN (by rw [hk] at h0; omega)]
      exact h.z
theorem mrg_lt (a d : Nat) (m : Int) (ha : a < 2 ^ 32) (hd : d < 2 ^ 32) : mrg a d m < 2 ^ 32 := mrgK_lt ha hd 4
theorem stS_inv {s : MSt} (h : MInv s) (A d : Nat) (m : Int) (hd : d < 2 ^ 32) : MInv (stS s A d m) := by
  unfold stS
  split
  · exact ⟨⟨h.ok.regs, h.ok.csrs, h.ok.mem, h.ok.pc, h.ok.rlt, h.ok.clt, h.ok.mlt, fun x hx => by
      rcases List.mem_append.1 hx with hx | hx
      · exact h.ok.tlt x hx
      · obtain rfl : x = d := by simpa using hx
        exact hd, h.ok.code⟩, h.al, h.cs, h.z⟩
  · split
    · exact ⟨⟨h.ok.regs, h.ok.csrs, h.ok.mem, h.ok.pc, h.ok.rlt, h.ok.clt, h.ok.mlt, h.ok.tlt, hd⟩, h.al, h.cs, h.z⟩
    · exact ⟨⟨h.ok.regs, h.ok.csrs, by show (List.set _ _ _).length = _; rw [List.length_set]; exact h.ok.mem, h.ok.pc, h.ok.rlt, h.ok.clt, fun x hx => by
        rcases List.mem_or_eq_of_mem_set hx with h1 | rfl
        · exact h.ok.mlt x h1
        · exact mrg_lt _ _ _ (nthB2 h.ok.mlt (by decide) _) hd, h.ok.tlt, h.ok.code⟩, h.al, h.cs, h.z⟩
theorem step_inv {s : MSt} (h : MInv s) : MInv (stepP s) := by
  by_cases hh : s.halted = true
  · unfold stepP; rw [if_pos hh]; exact h
  · have hf : s.halted = false := by simpa using hh
    rw [stepP_eq s h hf]
    split
    · rename_i hst
      obtain ⟨_, A, d, hA, hd, hd2, _⟩ := (made_good h).r.st hst
      exact stS_inv (regS_inv h) _ _ _ (by rw [hd]; exact hd2)
    · exact regS_inv h
end Go.Proofs.YtmdjhahafjlebaaGreatDoor
