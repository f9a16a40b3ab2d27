/- Checkpoints, without memory: words got in order, words put in order. -/
import Derived.Test.YthoaofbhppdfoaaDoorRowM
import Derived.Test.YthoaofbhppdfoaaDoorBits
namespace Go.Dio

/-- The row behind the words from a on were got. -/
def gets (l : List Nat) (a : Nat) : Nat → List Nat
  | 0 => l
  | n + 1 => getL (gets l a n) ((a + n : Nat) : Int)
def getsF (l : List Nat) (a : Nat) : Nat → Nat
  | 0 => 0
  | n + 1 => getsF l a n + getF (gets l a n) ((a + n : Nat) : Int)
theorem gets_len (l : List Nat) (a : Nat) : ∀ n, (gets l a n).length = l.length
  | 0 => rfl
  | n + 1 => by rw [gets, getL_len, gets_len l a n]
theorem getL_nth {l : List Nat} {i : Int} {j : Nat} (h : i ≠ (j : Int)) : nth (getL l i) j = nth l j := by
  unfold getL
  split
  · next hc =>
    simp only [Bool.and_eq_true, inn, decide_eq_true_eq] at hc
    rw [nth_set_ne (by omega)]
  · rfl
theorem gets_nth (l : List Nat) (a j : Nat) : ∀ n, j < a ∨ a + n ≤ j → nth (gets l a n) j = nth l j
  | 0, _ => rfl
  | n + 1, h => by rw [gets, getL_nth (by omega), gets_nth l a j n (by omega)]
/-- What they are, and whether each could be mended. -/
def valsL (l : List Nat) (a n : Nat) : List Nat := (List.range n).map fun i => (dec (nth l (a + i))).1
def goodN (l : List Nat) (a : Nat) : Nat → Bool
  | 0 => true
  | n + 1 => goodN l a n && decide ((dec (nth l (a + n))).2 ≠ 2)
theorem valsL_len (l : List Nat) (a n : Nat) : (valsL l a n).length = n := by simp [valsL]
theorem valsL_nth (l : List Nat) (a : Nat) {n i : Nat} (h : i < n) : nth (valsL l a n) i = (dec (nth l (a + i))).1 := by
  rw [nth_eq _ _ (by rw [valsL_len]; exact h)]; simp [valsL]
theorem dec_lt32 (x : Nat) : (dec x).1 < 2 ^ 32 := by unfold dec; exact Nat.mod_lt _ (by decide)
theorem valsL_lt (l : List Nat) (a n : Nat) : ∀ x ∈ valsL l a n, x < 2 ^ 32 := fun x hx => by
  simp only [valsL, List.mem_map] at hx
  obtain ⟨i, _, rfl⟩ := hx
  exact dec_lt32 _

/-- The row behind the first n words of a list were put from a on. -/
def puts (l : List Nat) (a : Nat) (vs : List Nat) : Nat → List Nat
  | 0 => l
  | n + 1 => putL (puts l a vs n) ((a + n : Nat) : Int) (nth vs n)
theorem puts_len (l : List Nat) (a : Nat) (vs : List Nat) : ∀ n, (puts l a vs n).length = l.length
  | 0 => rfl
  | n + 1 => by rw [puts, putL_len, puts_len l a vs n]
theorem put_nat' {l : List Nat} {k v : Nat} (h : k < l.length) : putL l (k : Int) v = l.set k (enc v) := by
  rw [putL, inn_of (by omega) (by omega)]; rfl
theorem puts_nth (l : List Nat) (a : Nat) (vs : List Nat) (j : Nat) : ∀ n, a + n ≤ l.length → nth (puts l a vs n) j = if a ≤ j ∧ j < a + n then enc (nth vs (j - a)) else nth l j
  | 0, _ => by rw [if_neg (by omega)]; rfl
  | n + 1, h => by
    rw [puts, put_nat' (by rw [puts_len]; omega)]
    by_cases e : j = a + n
    · subst e
      rw [nth_set_eq (by rw [puts_len]; omega), if_pos (by omega), show a + n - a = n by omega]
    · rw [nth_set_ne (by omega), puts_nth l a vs j n (by omega)]
      by_cases e2 : a ≤ j ∧ j < a + n
      · rw [if_pos e2, if_pos (by omega)]
      · rw [if_neg e2, if_neg (by omega)]

/-- A checkpoint's mark, its count, its words. -/
def markP (n : Nat) : Nat := 1526595584 + n % 65536
theorem markP_lt (n : Nat) : markP n < 2 ^ 32 := by unfold markP; omega
def cntP (n : Int) : Nat := (max 0 (min n 2147483647)).toNat
theorem cntP_lt (n : Int) : cntP n < 2 ^ 31 := by unfold cntP; omega
def saveV (pc : Nat) (regs csrs : List Nat) (n : Int) : List Nat := pc :: (regs.tail ++ csrs ++ [cntP n, markP (cntP n)])
theorem saveV_0 (pc : Nat) (regs csrs : List Nat) (n : Int) : nth (saveV pc regs csrs n) 0 = pc := rfl
theorem nth_app_left {l m : List Nat} {i : Nat} (h : i < l.length) : nth (l ++ m) i = nth l i := by
  unfold nth; simp [List.getD, List.getElem?_append_left h]
theorem nth_app_right {l m : List Nat} {i : Nat} (h : l.length ≤ i) : nth (l ++ m) i = nth m (i - l.length) := by
  unfold nth; simp [List.getD, List.getElem?_append_right h]
theorem nth_cons {x : Nat} {l : List Nat} {i : Nat} : nth (x :: l) (i + 1) = nth l i := rfl
theorem nth_tail {l : List Nat} {i : Nat} : nth l.tail i = nth l (i + 1) := by cases l <;> simp [nth]
theorem saveV_reg (pc : Nat) {regs csrs : List Nat} (n : Int) (hr : regs.length = 32) {i : Nat} (h : i < 31) : nth (saveV pc regs csrs n) (1 + i) = nth regs (1 + i) := by
  rw [saveV, Nat.add_comm, nth_cons, nth_app_left (by simp; omega), nth_app_left (by simp; omega), nth_tail]
theorem saveV_csr (pc : Nat) {regs csrs : List Nat} (n : Int) (hr : regs.length = 32) (hc : csrs.length = 5) {i : Nat} (h : i < 5) : nth (saveV pc regs csrs n) (32 + i) = nth csrs i := by
  rw [saveV, show 32 + i = (31 + i) + 1 by omega, nth_cons, nth_app_left (by simp; omega), nth_app_right (by simp; omega)]
  congr 1; simp; omega
theorem saveV_n (pc : Nat) {regs csrs : List Nat} (n : Int) (hr : regs.length = 32) (hc : csrs.length = 5) : nth (saveV pc regs csrs n) 37 = cntP n ∧ nth (saveV pc regs csrs n) 38 = markP (cntP n) := by
  have hl : (regs.tail ++ csrs).length = 36 := by simp; omega
  constructor
  · rw [saveV, show 37 = 36 + 1 by omega, nth_cons, nth_app_right (by omega), hl]; rfl
  · rw [saveV, show 38 = 37 + 1 by omega, nth_cons, nth_app_right (by omega), hl]; rfl
theorem saveV_lt {pc : Nat} {regs csrs : List Nat} {n : Int} (hp : pc < 2 ^ 32) (hr : ∀ x ∈ regs, x < 2 ^ 32) (hc : ∀ x ∈ csrs, x < 2 ^ 32) : ∀ x ∈ saveV pc regs csrs n, x < 2 ^ 32 := fun x hx => by
  simp only [saveV, List.mem_cons, List.mem_append, List.not_mem_nil, or_false] at hx
  rcases hx with rfl | (h | h) | rfl | rfl
  · exact hp
  · exact hr x (List.mem_of_mem_tail h)
  · exact hc x h
  · have := cntP_lt n; omega
  · exact markP_lt _

/-- Which copy is the latest (its number, and whether it can be told). -/
def latP (l : List Nat) : Nat := (dec (nth l 78)).1 % 2
def saveL (l : List Nat) (pc : Nat) (regs csrs : List Nat) (n : Int) : List Nat :=
  putL (puts (getL l 78) (39 * (1 - latP l)) (saveV pc regs csrs n) 39) 78 (1 - latP l)
/-- A copy is right. -/
def rightP (l : List Nat) (k : Nat) : Bool := goodN l (39 * k) 39 && decide (nth (valsL l (39 * k) 39) 38 = markP (nth (valsL l (39 * k) 39) 37))
/-- What Load tells: the words; can they be told? The row and the fixes behind it. -/
def loadW (l : List Nat) : List Nat :=
  if rightP (getL l 78) (latP l) then valsL (getL l 78) (39 * latP l) 39 else valsL (gets (getL l 78) (39 * latP l) 39) (39 * (1 - latP l)) 39
def loadOk (l : List Nat) : Bool :=
  (rightP (getL l 78) (latP l) || rightP (gets (getL l 78) (39 * latP l) 39) (1 - latP l)) && decide ((dec (nth l 78)).2 ≠ 2)
def loadL (l : List Nat) : List Nat :=
  if rightP (getL l 78) (latP l) then gets (getL l 78) (39 * latP l) 39 else gets (gets (getL l 78) (39 * latP l) 39) (39 * (1 - latP l)) 39
def loadF (l : List Nat) : Nat :=
  getF l 78 + (if rightP (getL l 78) (latP l) then getsF (getL l 78) (39 * latP l) 39 else getsF (getL l 78) (39 * latP l) 39 + getsF (gets (getL l 78) (39 * latP l) 39) (39 * (1 - latP l)) 39)
def newS : List Nat := putL (putL (List.replicate 79 0) 38 1526595584) 77 1526595584
theorem newS_len : newS.length = 79 := by simp [newS, putL_len]
theorem and65535 (n : Nat) (h : n < 2 ^ 32) : bits .and .u32 (n : Int) 65535 = ((n % 65536 : Nat) : Int) := by
  have e : (65535 : Int) = ((2 ^ 16 - 1 : Nat) : Int) := by decide
  rw [e, and32 n _ h (by decide), Nat.and_two_pow_sub_one_eq_mod]
theorem or_mark (n : Nat) (h : n < 65536) : bits .or .u32 1526595584 (n : Int) = ((1526595584 + n : Nat) : Int) := by
  have e : (1526595584 : Int) = ((1526595584 : Nat) : Int) := rfl
  rw [e, or32 _ n (by decide) (by omega), show (1526595584 : Nat) = 23294 * 2 ^ 16 by decide, Nat.mul_comm, ← Nat.two_pow_add_eq_or_of_lt (by omega)]
end Go.Dio
