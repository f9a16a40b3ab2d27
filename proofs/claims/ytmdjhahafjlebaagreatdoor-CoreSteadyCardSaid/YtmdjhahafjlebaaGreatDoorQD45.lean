/- What an instruction uses (pure). -/
import Derived.Test.YtmdjhahafjlebaaGreatDoorQD44
import Derived.Test.YtmdjhahafjlebaaGreatDoorQD43
import Derived.Test.YtmdjhahafjlebaaGreatDoorQD35
import Derived.Test.YtmdjhahafjlebaaGreatDoorQD33
namespace Go.Proofs.YtmdjhahafjlebaaGreatDoor
open Go.RowKit Go.Dio
set_option linter.unusedSimpArgs false
set_option linter.unusedVariables false

def U1 (op : Nat) : Prop := (4 ≤ op ∧ op ≤ 45) ∨ 50 ≤ op
def U2 (op : Nat) : Prop := (5 ≤ op ∧ op ≤ 10) ∨ (16 ≤ op ∧ op ≤ 18) ∨ (28 ≤ op ∧ op ≤ 45)
structure UseI (x y : Nat) (i : InstV) : Prop where
  u1 : U1 i.op → i.r1 = x
  u2 : U2 i.op → i.r2 = y
  u3 : 50 ≤ i.op → 0 ≤ i.imm ∧ i.imm < 4096
theorem UseI.no (x y : Nat) : UseI x y noI := ⟨fun h => by unfold U1 noI at h; simp at h, fun h => by unfold U2 noI at h; simp at h, fun h => by unfold noI at h; simp at h⟩
theorem UseI.withI {x y o : Nat} {i : InstV} (h : o ≠ 0 → UseI x y { i with op := o }) : UseI x y (withI o i) := by
  unfold Go.Proofs.YtmdjhahafjlebaaGreatDoor.withI
  by_cases h0 : o = 0
  · rw [if_pos h0]; exact UseI.no x y
  · rw [if_neg h0]; exact h h0
theorem nthP {P : Nat → Prop} {l : List Nat} (h0 : P 0) (h : ∀ x ∈ l, P x) (k : Nat) : P (nth l k) := by
  by_cases hk : k < l.length
  · rw [nth_eq l k hk]; exact h _ (List.getElem_mem hk)
  · rw [show nth l k = 0 by simp [nth, show l.length ≤ k by omega]]; exact h0
theorem opB_in (f : Nat) : opB f = 0 ∨ (5 ≤ opB f ∧ opB f ≤ 10) := nthP (P := fun v => v = 0 ∨ (5 ≤ v ∧ v ≤ 10)) (by decide) (by decide) f
theorem opL_in (f : Nat) : opL f = 0 ∨ (11 ≤ opL f ∧ opL f ≤ 15) := nthP (P := fun v => v = 0 ∨ (11 ≤ v ∧ v ≤ 15)) (by decide) (by decide) f
theorem opS_in (f : Nat) : opS f = 0 ∨ (16 ≤ opS f ∧ opS f ≤ 18) := nthP (P := fun v => v = 0 ∨ (16 ≤ v ∧ v ≤ 18)) (by decide) (by decide) f
theorem opI_in (f : Nat) : opI f = 0 ∨ (19 ≤ opI f ∧ opI f ≤ 24) := nthP (P := fun v => v = 0 ∨ (19 ≤ v ∧ v ≤ 24)) (by decide) (by decide) f
theorem opC_in (f : Nat) : opC f = 0 ∨ (50 ≤ opC f ∧ opC f ≤ 55) := nthP (P := fun v => v = 0 ∨ (50 ≤ v ∧ v ≤ 55)) (by decide) (by decide) f
theorem opR_in (g f : Nat) : opR g f = 0 ∨ (28 ≤ opR g f ∧ opR g f ≤ 45) := by
  unfold opR
  split
  · exact nthP (P := fun v => v = 0 ∨ (28 ≤ v ∧ v ≤ 45)) (by decide) (by decide) f
  split
  · exact nthP (P := fun v => v = 0 ∨ (28 ≤ v ∧ v ≤ 45)) (by decide) (by decide) f
  split
  · decide
  split
  · decide
  · decide
theorem dec_use (w : Nat) : UseI (fb w 15 5) (fb w 20 5) (decodeP w) := by
  have hb12 : ((fb w 20 12 : Nat) : Int) < 4096 := by have := fb_lt w 20 12; omega
  unfold decodeP
  generalize fb w 7 5 = rd at *
  generalize fb w 15 5 = r1 at *
  generalize fb w 20 5 = r2 at *
  generalize fb w 0 7 = code
  generalize fb w 12 3 = f3
  generalize fb w 25 7 = f7
  unfold codeP
  split
  · exact ⟨fun h => by unfold U1 at h; simp at h, fun h => by unfold U2 at h; simp at h, fun h => by simp at h⟩
  split
  · exact ⟨fun h => by unfold U1 at h; simp at h, fun h => by unfold U2 at h; simp at h, fun h => by simp at h⟩
  split
  · exact ⟨fun h => by unfold U1 at h; simp at h, fun h => by unfold U2 at h; simp at h, fun h => by simp at h⟩
  split
  · split
    · exact ⟨fun _ => rfl, fun h => by unfold U2 at h; simp at h, fun h => by simp at h⟩
    · exact UseI.no _ _
  split
  · have := opB_in f3
    exact UseI.withI (fun h0 => ⟨fun _ => rfl, fun _ => rfl, fun h => by dsimp only at h; omega⟩)
  split
  · have := opL_in f3
    exact UseI.withI (fun h0 => ⟨fun _ => rfl, fun h => by unfold U2 at h; dsimp only at h; omega, fun h => by dsimp only at h; omega⟩)
  split
  · have := opS_in f3
    exact UseI.withI (fun h0 => ⟨fun _ => rfl, fun _ => rfl, fun h => by dsimp only at h; omega⟩)
  split
  · unfold immP
    split
    · have := opI_in f3
      exact UseI.withI (fun h0 => ⟨fun _ => rfl, fun h => by unfold U2 at h; dsimp only at h; omega, fun h => by dsimp only at h; omega⟩)
    split
    · exact ⟨fun _ => rfl, fun h => by unfold U2 at h; simp at h, fun h => by simp at h⟩
    split
    · exact ⟨fun _ => rfl, fun h => by unfold U2 at h; simp at h, fun h => by simp at h⟩
    split
    · exact ⟨fun _ => rfl, fun h => by unfold U2 at h; simp at h, fun h => by simp at h⟩
    exact UseI.no _ _
  split
  · have := opR_in f7 f3
    exact UseI.withI (fun h0 => ⟨fun _ => rfl, fun _ => rfl, fun h => by dsimp only at h; omega⟩)
  split
  · split
    · exact ⟨fun h => by unfold U1 at h; simp at h, fun h => by unfold U2 at h; simp at h, fun h => by simp at h⟩
    · exact UseI.no _ _
  split
  · unfold sysP
    split
    · exact ⟨fun h => by unfold U1 at h; simp at h, fun h => by unfold U2 at h; simp at h, fun h => by simp at h⟩
    split
    · exact ⟨fun h => by unfold U1 at h; simp at h, fun h => by unfold U2 at h; simp at h, fun h => by simp at h⟩
    split
    · exact ⟨fun h => by unfold U1 at h; simp at h, fun h => by unfold U2 at h; simp at h, fun h => by simp at h⟩
    · have := opC_in f3
      exact UseI.withI (fun h0 => ⟨fun _ => rfl, fun h => by unfold U2 at h; dsimp only at h; omega, fun _ => ⟨by dsimp only; omega, by dsimp only; omega⟩⟩)
  · exact UseI.no _ _
theorem taken_cong (op a b a' b' : Nat) (h : 5 ≤ op ∧ op ≤ 10 → a = a' ∧ b = b') : takenP op a b = takenP op a' b' := by
  by_cases ho : 5 ≤ op ∧ op ≤ 10
  · obtain ⟨rfl, rfl⟩ := h ho; rfl
  · rw [takenP_no op a b (by omega), takenP_no op a' b' (by omega)]
theorem moveX_word (pc b : Nat) (cs : List Nat) (i : InstV) (addr v v' : Nat) (h : 16 ≤ i.op) : moveX pc b cs i addr v = moveX pc b cs i addr v' := by
  unfold moveX; simp only [if_neg (show ¬ i.op ≤ 15 by omega)]
theorem moveX_b (pc b b' : Nat) (cs : List Nat) (i : InstV) (addr v : Nat) (h : i.op ≤ 15) : moveX pc b cs i addr v = moveX pc b' cs i addr v := by
  unfold moveX; simp only [if_pos h]
/-- What is made hangs on what is used alone. -/
theorem doI_cong (pc w a b a' b' : Nat) (cs : List Nat) (v v' : Nat) (i : InstV) (h1 : U1 i.op → a = a') (h2 : U2 i.op → b = b') (h3 : 11 ≤ i.op ∧ i.op ≤ 15 → v = v') : doI pc w a b cs v i = doI pc w a' b' cs v' i := by
  have ht := taken_cong i.op a b a' b' (fun h => ⟨h1 (Or.inl (by omega)), h2 (Or.inl h)⟩)
  unfold doI
  by_cases c0 : i.op = 0
  · rw [if_pos c0, if_pos c0]
  rw [if_neg c0, if_neg c0]
  by_cases c1 : i.op = 47
  · rw [if_pos c1, if_pos c1]
  rw [if_neg c1, if_neg c1]
  by_cases c2 : i.op = 48
  · rw [if_pos c2, if_pos c2]
  rw [if_neg c2, if_neg c2]
  by_cases c3 : i.op = 49
  · rw [if_pos c3, if_pos c3]
  rw [if_neg c3, if_neg c3]
  by_cases c4 : 50 ≤ i.op
  · rw [if_pos c4, if_pos c4, h1 (Or.inr c4)]
  rw [if_neg c4, if_neg c4]
  by_cases c5 : i.op = 3
  · rw [if_pos c5, if_pos c5]
  rw [if_neg c5, if_neg c5]
  by_cases c6 : i.op = 4
  · rw [if_pos c6, if_pos c6, h1 (Or.inl (by omega))]
  rw [if_neg c6, if_neg c6, ht]
  by_cases c7 : takenP i.op a' b' = true
  · rw [if_pos c7, if_pos c7]
  rw [if_neg c7, if_neg c7]
  by_cases c8 : 11 ≤ i.op ∧ i.op ≤ 18
  · rw [if_pos c8, if_pos c8, moveP_X, moveP_X, h1 (Or.inl (by omega))]
    by_cases c9 : i.op ≤ 15
    · rw [h3 ⟨c8.1, c9⟩, moveX_b pc b b' cs i _ v' c9]
    · rw [h2 (Or.inr (Or.inl (by omega))), moveX_word pc b' cs i _ v v' (by omega)]
  rw [if_neg c8, if_neg c8]
  by_cases c9 : 19 ≤ i.op ∧ i.op ≤ 27
  · simp only [if_pos c9, h1 (Or.inl (by omega))]
  · simp only [if_neg c9]
    by_cases c10 : 28 ≤ i.op ∧ i.op ≤ 45
    · simp only [if_pos c10, h1 (Or.inl (by omega)), h2 (Or.inr (Or.inr c10))]
    · simp only [if_neg c10]
/-- What is made, by what the decoded instruction names. -/
theorem madeP_ref (s : MSt) (hf : (fetchP s.pc).2 = false) : madeP s = doI s.pc (nth s.mem (s.pc / 4)) (nth s.regs (decodeP (nth s.mem (s.pc / 4))).r1) (nth s.regs (decodeP (nth s.mem (s.pc / 4))).r2) s.csrs
    (nth s.mem (u32 (((nth s.regs (decodeP (nth s.mem (s.pc / 4))).r1 : Nat) : Int) + (decodeP (nth s.mem (s.pc / 4))).imm) / 4)) (decodeP (nth s.mem (s.pc / 4))) := by
  unfold madeP
  rw [if_neg (by rw [hf]; decide)]
  have h := dec_use (nth s.mem (s.pc / 4))
  rw [doP_eq]
  exact doI_cong _ _ _ _ _ _ _ _ _ _ (fun hu => by rw [h.u1 hu]) (fun hu => by rw [h.u2 hu]) (fun hu => by rw [h.u1 (Or.inl (by omega))])
end Go.Proofs.YtmdjhahafjlebaaGreatDoor

namespace Go.Proofs.YtmdjhahafjlebaaGreatDoor
open Go.RowKit Go.Dio
set_option linter.unusedSimpArgs false
set_option linter.unusedVariables false set_option linter.unusedSectionVars false

def memoLd (m : List Nat) (a : Nat) : (Nat × Bool) × List Nat := (if a % 4 = 0 ∧ a < 4096 then (nth m (a / 4), true) else (0, false), m)
theorem enc_nth {L : List Nat} {i : Nat} (h : i < L.length) : nth (L.map enc) i = enc (nth L i) := by
  rw [nth_eq _ i (by simpa using h), nth_eq L i h]; simp
theorem nth_in {L : List Nat} {i : Nat} (h : i < L.length) : nth L i ∈ L := by rw [nth_eq L i h]; exact List.getElem_mem _
theorem good_dec {L : List Nat} (hL : ∀ x ∈ L, x < 2 ^ 32) {i : Nat} (h : i < L.length) : dec (nth (L.map enc) i) = (nth L i, 0) := by
  rw [enc_nth h, dec_enc (hL _ (nth_in h))]
theorem good_peek {L : List Nat} (hL : ∀ x ∈ L, x < 2 ^ 32) {i : Nat} (h : i < L.length) : peekL (L.map enc) (i : Int) = (nth L i, 0) := by
  rw [peek_nat (by simpa using h), good_dec hL h]
theorem good_get {L : List Nat} (hL : ∀ x ∈ L, x < 2 ^ 32) (i : Int) : getL (L.map enc) i = L.map enc ∧ getF (L.map enc) i = 0 := by
  cases hi : inn (L.map enc) i
  · unfold getL getF; rw [hi]; exact ⟨rfl, rfl⟩
  · obtain ⟨k, rfl, hk⟩ := inn_iff hi
    rw [List.length_map] at hk
    exact getL_other (by rw [good_peek hL hk]; exact (show (0 : Nat) ≠ 1 by decide))
theorem good_seen {L : List Nat} (hL : ∀ x ∈ L, x < 2 ^ 32) (f : Nat) : ∀ n, n ≤ L.length → seenR (L.map enc) f n = (L.map enc, f, true)
  | 0, _ => rfl
  | n + 1, hn => by
    have h := good_seen hL f n (by omega)
    rw [seenR_go (L.map enc) f n (by rw [h]) (by rw [good_dec hL (by omega)]; exact (show (0 : Nat) ≠ 2 by decide)), h]
    obtain ⟨g1, g2⟩ := good_get hL (n : Int)
    rw [g1, g2]; rfl
/-- Numbers that may stand in a core. -/
structure Gd (p : Nat) (R C : List Nat) : Prop where
  pc : p < 2 ^ 32
  len : R.length = 32
  zero : nth R 0 = 0
  rlt : ∀ x ∈ R, x < 2 ^ 32
  clen : C.length = 5
  clt : ∀ x ∈ C, x < 2 ^ 32
def gold (p : Nat) (R C ll : List Nat) (ff fa cf ca : Nat) : CoS := ⟨R.tail.map enc, ff, fa, (p :: C).map enc, cf, ca, ll⟩
def z4 : List Nat := [0, 0, 0, 0]
def lat (w c : Nat) : List Nat := [pput 1, pput c, pput w, 0]
theorem tail_lt {R : List Nat} (h : ∀ x ∈ R, x < 2 ^ 32) : ∀ x ∈ R.tail, x < 2 ^ 32 := fun x hx => h x (List.mem_of_mem_tail hx)
theorem nth_tail (R : List Nat) (j : Nat) : nth R.tail j = nth R (j + 1) := by cases R <;> simp [nth]
theorem Gd.six {p : Nat} {R C : List Nat} (h : Gd p R C) : ∀ x ∈ p :: C, x < 2 ^ 32 := fun x hx => by
  rcases List.mem_cons.1 hx with rfl | h1
  · exact h.pc
  · exact h.clt x h1
section
variable {p : Nat} {R C : List Nat} (g : Gd p R C) (ll : List Nat) (ff fa cf ca : Nat)
include g
theorem gold_ok (hl : ll.length = 4) (ha : fa < 31) (hc : ca < 6) : (gold p R C ll ff fa cf ca).Ok := ⟨by simp [gold, g.len], by simp [gold, g.clen], hl, ha, hc⟩
theorem gold_rd (i : Nat) (hi : i < 32) : rdV (R.tail.map enc) (i : Int) = (nth R i, 0) ∧ rdL (R.tail.map enc) (i : Int) = R.tail.map enc ∧ rdF (R.tail.map enc) (i : Int) = 0 := by
  unfold rdV rdL rdF
  rcases Nat.eq_zero_or_pos i with h0 | h0
  · subst h0
    have e0 : ((0 : Nat) : Int) = 0 := rfl
    rw [if_pos e0, if_pos e0, if_pos e0, g.zero]
    exact ⟨rfl, rfl, rfl⟩
  · obtain ⟨j, rfl⟩ : ∃ j, i = j + 1 := ⟨i - 1, by omega⟩
    rw [if_neg (by omega), if_neg (by omega), if_neg (by omega), show (((j + 1 : Nat) : Int) - 1) = (j : Int) by omega]
    obtain ⟨g1, g2⟩ := good_get (tail_lt g.rlt) (j : Int)
    rw [g1, g2, good_peek (tail_lt g.rlt) (by simp [g.len]; omega), nth_tail]
    exact ⟨rfl, rfl, rfl⟩
theorem gold_rr (i : Nat) (hi : i < 32) : (gold p R C ll ff fa cf ca).rr i = gold p R C ll ff fa cf ca := by
  obtain ⟨_, h2, h3⟩ := gold_rd g i hi
  unfold CoS.rr gold
  dsimp only
  rw [h2, h3]
  rfl
theorem gold_scr (ha : fa < 31) (hc : ca < 6) : (gold p R C ll ff fa cf ca).scr = gold p R C ll ff ((fa + 1) % 31) cf ((ca + 1) % 6) ∧ (gold p R C ll ff fa cf ca).scrOk = true := by
  obtain ⟨a1, a2⟩ := good_get (tail_lt g.rlt) (fa : Int)
  obtain ⟨b1, b2⟩ := good_get g.six (ca : Int)
  have h31 : (R.tail.map enc).length = 31 := by simp [g.len]
  constructor
  · unfold CoS.scr gold
    dsimp only
    rw [a1, a2, b1, b2, h31]
    rfl
  · unfold CoS.scrOk gold
    dsimp only
    rw [good_peek (tail_lt g.rlt) (by simp [g.len]; omega), good_peek g.six (by simp [g.clen]; omega)]
    rfl
theorem gold_seen : (gold p R C ll ff fa cf ca).seenS = gold p R C ll ff fa cf ca ∧ (gold p R C ll ff fa cf ca).seenOk = true ∧ (gold p R C ll ff fa cf ca).pc = p ∧ (gold p R C ll ff fa cf ca).csrs = C := by
  have h := good_seen g.six cf 6 (by simp [g.clen])
  refine ⟨?_, ?_, ?_, ?_⟩
  · unfold CoS.seenS gold
    dsimp only
    rw [h]
  · unfold CoS.seenOk gold
    dsimp only
    rw [h]
  · unfold CoS.pc gold
    dsimp only
    rw [good_dec g.six (by simp)]
    rfl
  · unfold CoS.csrs gold
    dsimp only
    have c5 := g.clen
    rw [good_dec g.six (by simp [c5]), good_dec g.six (by simp [c5]), good_dec g.six (by simp [c5]), good_dec g.six (by simp [c5]), good_dec g.six (by simp [c5])]
    obtain ⟨c0, c1, c2, c3, c4, rfl⟩ := csr5 c5
    rfl
theorem gold_fin (x : MadeV) (w : WGood x) : (gold p R C ll ff fa cf ca).fin x = gold x.next (if x.r.rd = 0 then R else R.set x.r.rd.toNat x.r.val.toNat) x.csrs z4 ff fa cf ca := by
  unfold CoS.fin gold z4
  dsimp only
  have h : wrL (R.tail.map enc) x.r.rd x.r.val.toNat = (if x.r.rd = 0 then R else R.set x.r.rd.toNat x.r.val.toNat).tail.map enc := by
    unfold wrL
    by_cases h0 : x.r.rd = 0
    · rw [if_pos h0, if_pos h0]
    · rw [if_neg h0, if_neg h0]
      have hr := w.r.rd
      obtain ⟨j, hj⟩ : ∃ j : Nat, x.r.rd = ((j + 1 : Nat) : Int) := ⟨x.r.rd.toNat - 1, by omega⟩
      rw [hj, show (((j + 1 : Nat) : Int) - 1) = (j : Int) by omega, putL_nat _ j _ (by simp [g.len]; omega), Int.toNat_natCast]
      have hl := g.len
      cases R with
      | nil => simp at hl
      | cons a r => simp [List.set_cons_succ]
  rw [h]
theorem gold_next (x : MadeV) (w : WGood x) : Gd x.next (if x.r.rd = 0 then R else R.set x.r.rd.toNat x.r.val.toNat) x.csrs := by
  have hr := w.r.rd
  have hv := w.r.val
  refine ⟨w.next, ?_, ?_, ?_, w.cs.len, w.cs.lt⟩
  · split <;> simp [g.len]
  · split
    · exact g.zero
    · rw [nth_set_ne (by omega)]; exact g.zero
  · split
    · exact g.rlt
    · exact set_lt g.rlt (by omega)
theorem gold_state : (gold p R C ll ff fa cf ca).stOk = true ∧ (gold p R C ll ff fa cf ca).stP = p ∧ (gold p R C ll ff fa cf ca).stR = R ∧ (gold p R C ll ff fa cf ca).stC = C := by
  have h1 : allB (R.tail.map enc) = true := allB_of (n := 31) (by simp [g.len]) (fun j hj => by rw [good_dec (tail_lt g.rlt) (by simp [g.len]; omega)]; exact (show (0 : Nat) ≠ 2 by decide))
  have h2 : (((p :: C).map enc).all fun x => decide ((dec x).2 ≠ 2)) = true := by
    rw [List.all_eq_true]
    intro x hx
    obtain ⟨y, hy, rfl⟩ := List.mem_map.1 hx
    rw [dec_enc (g.six y hy)]; rfl
  have h : (gold p R C ll ff fa cf ca).stOk = true := by
    unfold CoS.stOk gold
    dsimp only
    rw [h1, h2]; rfl
  obtain ⟨_, _, s3, s4⟩ := gold_seen g ll ff fa cf ca
  refine ⟨h, ?_, ?_, ?_⟩
  · unfold CoS.stP; rw [if_pos h, s3]
  · unfold CoS.stR; rw [if_pos h]
    show allV (R.tail.map enc) = R
    unfold allV
    have hl := g.len
    have h0 := g.zero
    cases R with
    | nil => simp at hl
    | cons a r =>
      have ha : a = 0 := by simpa [nth] using h0
      rw [ha]
      congr 1
      show (r.map enc).map (fun x => (dec x).1) = r
      rw [List.map_map]
      apply List.ext_getElem (by simp)
      intro i h1 h2
      simp only [List.getElem_map, Function.comp]
      rw [dec_enc (g.rlt _ (by simp))]
  · unfold CoS.stC; rw [if_pos h, s4]
end
theorem right_z4 (p : Nat) (R C : List Nat) (ff fa cf ca : Nat) : (gold p R C z4 ff fa cf ca).right = true := by
  show (rightL [0, 0, 0, 0] 0 4 && decide (pget 0 ≤ 1) && decide (pget 0 ≤ 40) && decide (pget 0 = 0)) = true
  decide +kernel
theorem right_lat (p : Nat) (R C : List Nat) (w c ff fa cf ca : Nat) (hw : w < 2 ^ 32) (hc : c ≤ 40) : (gold p R C (lat w c) ff fa cf ca).right = true := by
  unfold CoS.right gold lat
  dsimp only
  have h1 : pok (pput 1) = true := pok_pput (by decide)
  have h2 : pok (pput c) = true := pok_pput (by omega)
  have h3 : pok (pput w) = true := pok_pput hw
  have e : rightL [pput 1, pput c, pput w, 0] 0 4 = true := rightL_true (fun i hi => by
    match i, hi with
    | 0, _ => exact h1
    | 1, _ => exact h2
    | 2, _ => exact h3
    | 3, _ => exact (show pok 0 = true by decide +kernel))
  rw [e]
  show (true && decide (pget (pput 1) ≤ 1) && decide (pget (pput c) ≤ 40) && decide (pget 0 = 0)) = true
  rw [pget_pput (by decide), pget_pput (show c < 2 ^ 32 by omega)]
  simp [hc]; rfl
end Go.Proofs.YtmdjhahafjlebaaGreatDoor
