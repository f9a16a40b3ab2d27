/- What checkpoints tell, without memory. -/
import Derived.Test.YthoaofbhppdfoaaDoorSave4
import Derived.Test.YthoaofbhppdfoaaDoorWd
import Derived.Test.YthoaofbhppdfoaaDoorMem4
namespace Go.Proofs.YthoaofbhppdfoaaDoor
open Go.RowKit Go.Dio

/-- A copy's words are told as c. -/
def CopyIs (l : List Nat) (k : Nat) (c : List Nat) : Prop := ∀ i, i < 39 → (dec (nth l (39 * k + i))).1 = nth c i ∧ (dec (nth l (39 * k + i))).2 ≠ 2
def cpV (c : List Nat) : Value := .tuple #[.int .u32 ((nth c 0 : Nat) : Int), .agg (nums .u32 (0 :: (c.drop 1).take 31)), .agg (nums .u32 ((c.drop 32).take 5)), .int .i64 ((nth c 37 : Nat) : Int), .bool true]
def zeroV : Value := .tuple #[.int .u32 0, .agg (nums .u32 (List.replicate 32 0)), .agg (nums .u32 (List.replicate 5 0)), .int .i64 0, .bool false]
theorem goodN_iff (l : List Nat) (a : Nat) : ∀ n, goodN l a n = true ↔ ∀ i, i < n → (dec (nth l (a + i))).2 ≠ 2
  | 0 => by simp [goodN]
  | n + 1 => by
    rw [goodN, Bool.and_eq_true, goodN_iff l a n, decide_eq_true_iff]
    constructor
    · intro ⟨h1, h2⟩ i hi
      by_cases e : i = n
      · subst e; exact h2
      · exact h1 i (by omega)
    · intro h
      exact ⟨fun i hi => h i (by omega), h n (by omega)⟩
theorem vals_copy {l : List Nat} {k : Nat} {c : List Nat} (hc : c.length = 39) (h : CopyIs l k c) : valsL l (39 * k) 39 = c :=
  list_ext (by rw [valsL_len, hc]) fun j hj => by
    rw [valsL_len] at hj
    rw [valsL_nth _ _ hj, (h j hj).1]
theorem right_copy {l : List Nat} {k : Nat} {c : List Nat} (hc : c.length = 39) (h : CopyIs l k c) (hm : nth c 38 = markP (nth c 37)) : rightP l k = true := by
  rw [rightP, vals_copy hc h, (goodN_iff l (39 * k) 39).2 (fun i hi => (h i hi).2), decide_eq_true hm]; rfl
theorem right_bad {l : List Nat} {k i : Nat} (hi : i < 39) (h : (dec (nth l (39 * k + i))).2 = 2) : rightP l k = false := by
  rw [rightP]
  cases hg : goodN l (39 * k) 39
  · rfl
  · exact absurd h ((goodN_iff l (39 * k) 39).1 hg i hi)
theorem get78_nth {l : List Nat} {j : Nat} (h : j < 78) : nth (getL l 78) j = nth l j := getL_nth (by omega)
theorem CopyIs.get {l : List Nat} {k : Nat} {c : List Nat} (hk : k ≤ 1) (h : CopyIs l k c) : CopyIs (getL l 78) k c := fun i hi => by
  rw [get78_nth (by omega)]; exact h i hi
theorem CopyIs.gets {l : List Nat} {k m : Nat} {c : List Nat} (hne : k ≠ m) (h : CopyIs l k c) : CopyIs (gets l (39 * m) 39) k c := fun i hi => by
  rw [gets_nth _ _ _ _ (by omega)]; exact h i hi
theorem lat_le (l : List Nat) : latP l ≤ 1 := by unfold latP; omega
theorem load_latest {l c : List Nat} {k : Nat} (hs : (dec (nth l 78)).2 ≠ 2) (hk : latP l = k) (hc : c.length = 39) (h : CopyIs l k c) (hm : nth c 38 = markP (nth c 37)) : loadV l = cpV c := by
  have hk1 := lat_le l
  rw [hk] at hk1
  have hr := right_copy hc (h.get hk1) hm
  have hw : loadW l = c := by rw [loadW, hk, hr, if_pos rfl, vals_copy hc (h.get hk1)]
  have ho : loadOk l = true := by rw [loadOk, hk, hr, decide_eq_true hs]; rfl
  rw [loadV, ho, hw]; rfl
theorem load_elder {l c : List Nat} {k i : Nat} (hs : (dec (nth l 78)).2 ≠ 2) (hk : latP l = k) (hi : i < 39) (hb : (dec (nth l (39 * k + i))).2 = 2) (hc : c.length = 39) (h : CopyIs l (1 - k) c) (hm : nth c 38 = markP (nth c 37)) : loadV l = cpV c := by
  have hk1 := lat_le l
  rw [hk] at hk1
  have hr1 : rightP (getL l 78) k = false := right_bad hi (by rw [get78_nth (by omega)]; exact hb)
  have h2 : CopyIs (gets (getL l 78) (39 * k) 39) (1 - k) c := (h.get (by omega)).gets (by omega)
  have hr2 := right_copy hc h2 hm
  have hw : loadW l = c := by rw [loadW, hk, hr1, if_neg (by decide), vals_copy hc h2]
  have ho : loadOk l = true := by rw [loadOk, hk, hr1, hr2, decide_eq_true hs]; rfl
  rw [loadV, ho, hw]; rfl
theorem load_bad {l : List Nat} (hs : (dec (nth l 78)).2 = 2) : loadV l = zeroV := by
  have ho : loadOk l = false := by rw [loadOk, hs]; simp
  rw [loadV, ho]; rfl

/-- The row of two copies. -/
def svRow (c0 c1 : List Nat) (k : Nat) : List Nat := (c0 ++ c1 ++ [k]).map enc
def svN (c0 c1 : List Nat) (k j : Nat) : Nat := nth (c0 ++ c1 ++ [k]) j
theorem svRow_len {c0 c1 : List Nat} {k : Nat} (h0 : c0.length = 39) (h1 : c1.length = 39) : (svRow c0 c1 k).length = 79 := by simp [svRow, h0, h1]
theorem svRow_nth {c0 c1 : List Nat} {k j : Nat} (h0 : c0.length = 39) (h1 : c1.length = 39) (hj : j < 79) : nth (svRow c0 c1 k) j = enc (svN c0 c1 k j) := by
  rw [nth_eq _ _ (by rw [svRow_len h0 h1]; exact hj), svN, nth_eq _ _ (by simp [h0, h1]; omega)]
  simp only [svRow, List.getElem_map]
theorem svN_0 {c0 c1 : List Nat} {k j : Nat} (h0 : c0.length = 39) (hj : j < 39) : svN c0 c1 k j = nth c0 j := by
  rw [svN, List.append_assoc, nth_app_left (by omega)]
theorem svN_1 {c0 c1 : List Nat} {k j : Nat} (h0 : c0.length = 39) (h1 : c1.length = 39) (hj : j < 39) : svN c0 c1 k (39 + j) = nth c1 j := by
  rw [svN, List.append_assoc, nth_app_right (by omega), nth_app_left (by omega), h0]; congr 1; omega
theorem svN_k {c0 c1 : List Nat} {k : Nat} (h0 : c0.length = 39) (h1 : c1.length = 39) : svN c0 c1 k 78 = k := by
  rw [svN, nth_app_right (by simp [h0, h1])]; simp [h0, h1, nth]
theorem svN_lt {c0 c1 : List Nat} {k : Nat} (h0 : ∀ x ∈ c0, x < 2 ^ 32) (h1 : ∀ x ∈ c1, x < 2 ^ 32) (hk : k ≤ 1) (j : Nat) : svN c0 c1 k j < 2 ^ 32 :=
  nth_lt (fun x hx => by
    simp only [List.mem_append, List.mem_cons, List.not_mem_nil, or_false] at hx
    rcases hx with (h | h) | h
    · exact h0 x h
    · exact h1 x h
    · omega) (by decide) j
/-- Two copies, of which the k-th is the latest. -/
structure TwoC (c0 c1 : List Nat) (k : Nat) : Prop where
  l0 : c0.length = 39
  l1 : c1.length = 39
  b0 : ∀ x ∈ c0, x < 2 ^ 32
  b1 : ∀ x ∈ c1, x < 2 ^ 32
  k1 : k ≤ 1
theorem TwoC.dec {c0 c1 : List Nat} {k j : Nat} (h : TwoC c0 c1 k) (hj : j < 79) : Go.Dio.dec (nth (svRow c0 c1 k) j) = (svN c0 c1 k j, 0) := by
  rw [svRow_nth h.l0 h.l1 hj, dec_enc (svN_lt h.b0 h.b1 h.k1 j)]
theorem TwoC.peek {c0 c1 : List Nat} {k j : Nat} (h : TwoC c0 c1 k) (hj : j < 79) : peekL (svRow c0 c1 k) (j : Int) = (svN c0 c1 k j, 0) := by
  rw [peek_nat' (by rw [svRow_len h.l0 h.l1]; exact hj), h.dec hj]
theorem TwoC.get {c0 c1 : List Nat} {k j : Nat} (h : TwoC c0 c1 k) (hj : j < 79) : getL (svRow c0 c1 k) (j : Int) = svRow c0 c1 k ∧ getF (svRow c0 c1 k) (j : Int) = 0 :=
  getL_other (by rw [h.peek hj]; simp)
theorem TwoC.gets {c0 c1 : List Nat} {k a : Nat} (h : TwoC c0 c1 k) : ∀ n, a + n ≤ 79 → Go.Dio.gets (svRow c0 c1 k) a n = svRow c0 c1 k ∧ getsF (svRow c0 c1 k) a n = 0
  | 0, _ => ⟨rfl, rfl⟩
  | n + 1, hn => by
    obtain ⟨h1, h2⟩ := TwoC.gets (a := a) h n (by omega)
    obtain ⟨h3, h4⟩ := h.get (show a + n < 79 by omega)
    exact ⟨by rw [Go.Dio.gets, h1, h3], by rw [getsF, h1, h2, h4]⟩
theorem TwoC.lat {c0 c1 : List Nat} {k : Nat} (h : TwoC c0 c1 k) : latP (svRow c0 c1 k) = k := by
  have := h.k1
  rw [latP, h.dec (by decide), svN_k h.l0 h.l1]; simp only; omega
def saveW (l V : List Nat) : List Nat := putL (puts (getL l 78) (39 * (1 - latP l)) V 39) 78 (1 - latP l)
theorem saveL_eq (l : List Nat) (pc : Nat) (regs csrs : List Nat) (n : Int) : saveL l pc regs csrs n = saveW l (saveV pc regs csrs n) := rfl
theorem saveV_len {pc : Nat} {regs csrs : List Nat} {n : Int} (hr : regs.length = 32) (hc : csrs.length = 5) : (saveV pc regs csrs n).length = 39 := by simp [saveV, hr, hc]
theorem TwoC.save {c0 c1 V : List Nat} {k : Nat} (h : TwoC c0 c1 k) (hv : V.length = 39) (hb : ∀ x ∈ V, x < 2 ^ 32) :
    (k = 0 → saveW (svRow c0 c1 k) V = svRow c0 V 1 ∧ TwoC c0 V 1) ∧ (k = 1 → saveW (svRow c0 c1 k) V = svRow V c1 0 ∧ TwoC V c1 0) := by
  have h0 := h.l0
  have h1 := h.l1
  have hk := h.k1
  have hl := svRow_len (k := k) h0 h1
  have hg : getL (svRow c0 c1 k) 78 = svRow c0 c1 k := (h.get (show 78 < 79 by decide)).1
  have hp : (puts (svRow c0 c1 k) (39 * (1 - k)) V 39).length = 79 := by rw [puts_len, hl]
  have key : ∀ j, j < 79 → nth (saveW (svRow c0 c1 k) V) j = enc (if j = 78 then 1 - k else if 39 * (1 - k) ≤ j ∧ j < 39 * (1 - k) + 39 then nth V (j - 39 * (1 - k)) else svN c0 c1 k j) := by
    intro j hj
    rw [saveW, h.lat, hg, show (78 : Int) = ((78 : Nat) : Int) from rfl, put_nat' (by rw [hp]; decide)]
    by_cases e : j = 78
    · subst e; rw [nth_set_eq (by rw [hp]; decide), if_pos rfl]
    · rw [nth_set_ne (fun h => e h.symm), if_neg e, puts_nth _ _ _ _ _ (by rw [hl]; omega)]
      by_cases e2 : 39 * (1 - k) ≤ j ∧ j < 39 * (1 - k) + 39
      · rw [if_pos e2, if_pos e2]
      · rw [if_neg e2, if_neg e2, svRow_nth h0 h1 hj]
  have hsl : (saveW (svRow c0 c1 k) V).length = 79 := by rw [saveW, putL_len, puts_len, getL_len, hl]
  constructor
  · intro e
    subst e
    refine ⟨list_ext (by rw [hsl, svRow_len h0 hv]) fun j hj => ?_, h0, hv, h.b0, hb, by omega⟩
    rw [hsl] at hj
    rw [key j hj, svRow_nth h0 hv hj]
    refine congrArg enc ?_
    rcases (by omega : j = 78 ∨ j < 39 ∨ (39 ≤ j ∧ j < 78)) with e | e | ⟨e, e2⟩
    · subst e; rw [if_pos rfl, svN_k h0 hv]
    · rw [if_neg (by omega), if_neg (by omega), svN_0 h0 e, svN_0 h0 e]
    · obtain ⟨i, rfl⟩ : ∃ i, j = 39 + i := ⟨j - 39, by omega⟩
      rw [if_neg (by omega), if_pos (by omega), svN_1 h0 hv (by omega)]; exact congrArg (nth V) (by omega)
  · intro e
    subst e
    refine ⟨list_ext (by rw [hsl, svRow_len hv h1]) fun j hj => ?_, hv, h1, hb, h.b1, by omega⟩
    rw [hsl] at hj
    rw [key j hj, svRow_nth hv h1 hj]
    refine congrArg enc ?_
    rcases (by omega : j = 78 ∨ j < 39 ∨ (39 ≤ j ∧ j < 78)) with e | e | ⟨e, e2⟩
    · subst e; rw [if_pos rfl, svN_k hv h1]
    · rw [if_neg (by omega), if_pos (by omega), svN_0 hv e]; exact congrArg (nth V) (by omega)
    · obtain ⟨i, rfl⟩ : ∃ i, j = 39 + i := ⟨j - 39, by omega⟩
      rw [if_neg (by omega), if_neg (by omega), svN_1 h0 h1 (by omega), svN_1 hv h1 (by omega)]
/-- The copies' words are told. -/
theorem TwoC.copy {c0 c1 : List Nat} {k : Nat} (h : TwoC c0 c1 k) : CopyIs (svRow c0 c1 k) 0 c0 ∧ CopyIs (svRow c0 c1 k) 1 c1 :=
  ⟨fun i hi => by rw [h.dec (by omega), show 39 * 0 + i = i by omega, svN_0 h.l0 hi]; exact ⟨rfl, by simp only; omega⟩,
   fun i hi => by rw [h.dec (by omega), show 39 * 1 + i = 39 + i by omega, svN_1 h.l0 h.l1 hi]; exact ⟨rfl, by simp only; omega⟩⟩
def latC (c0 c1 : List Nat) (k : Nat) : List Nat := if k = 0 then c0 else c1
theorem TwoC.load {c0 c1 : List Nat} {k : Nat} (h : TwoC c0 c1 k) (hm : nth (latC c0 c1 k) 38 = markP (nth (latC c0 c1 k) 37)) : loadV (svRow c0 c1 k) = cpV (latC c0 c1 k) := by
  have hs : (Go.Dio.dec (nth (svRow c0 c1 k) 78)).2 ≠ 2 := by rw [h.dec (by decide)]; simp
  have hk := h.k1
  refine load_latest hs h.lat ?_ ?_ hm
  · unfold latC; split; exact h.l0; exact h.l1
  · unfold latC
    rcases (by omega : k = 0 ∨ k = 1) with rfl | rfl
    · exact h.copy.1
    · exact h.copy.2
theorem TwoC.loadL {c0 c1 : List Nat} {k : Nat} (h : TwoC c0 c1 k) : Go.Dio.loadL (svRow c0 c1 k) = svRow c0 c1 k ∧ Go.Dio.loadF (svRow c0 c1 k) = 0 := by
  obtain ⟨h1, h2⟩ := h.get (show 78 < 79 by decide)
  have h1 : getL (svRow c0 c1 k) 78 = svRow c0 c1 k := h1
  have h2 : getF (svRow c0 c1 k) 78 = 0 := h2
  have hk := h.k1
  obtain ⟨h3, h4⟩ := h.gets (a := 39 * k) 39 (by omega)
  obtain ⟨h5, h6⟩ := h.gets (a := 39 * (1 - k)) 39 (by omega)
  unfold Go.Dio.loadL Go.Dio.loadF
  simp only [h.lat, h1, h2, h3, h4, h5, h6, ite_self, Nat.add_zero, and_self]
/-- What was saved, as it is told. -/
theorem cpV_save {pc : Nat} {regs csrs : List Nat} {n : Int} (hr : regs.length = 32) (hc : csrs.length = 5) :
    cpV (saveV pc regs csrs n) = .tuple #[.int .u32 (pc : Int), .agg (nums .u32 (0 :: regs.tail)), .agg (nums .u32 csrs), .int .i64 (cntP n : Int), .bool true] := by
  have ht : regs.tail.length = 31 := by simp [hr]
  have e1 : ((saveV pc regs csrs n).drop 1).take 31 = regs.tail := by
    rw [saveV, List.drop_succ_cons, List.drop_zero, List.append_assoc, List.take_append_of_le_length (by omega), List.take_of_length_le (by omega)]
  have e2 : ((saveV pc regs csrs n).drop 32).take 5 = csrs := by
    rw [saveV, List.drop_succ_cons, List.append_assoc, List.drop_append_of_le_length (by omega), show List.drop 31 regs.tail = [] from List.drop_eq_nil_of_le (by omega), List.nil_append, List.take_append_of_le_length (by omega), List.take_of_length_le (by omega)]
  rw [cpV, saveV_0, e1, e2, (saveV_n pc n hr hc).1]
theorem save_mark {pc : Nat} {regs csrs : List Nat} {n : Int} (hr : regs.length = 32) (hc : csrs.length = 5) : nth (saveV pc regs csrs n) 38 = markP (nth (saveV pc regs csrs n) 37) := by
  obtain ⟨h1, h2⟩ := saveV_n pc n hr hc
  rw [h1, h2]
def zeroC : List Nat := saveV 0 (List.replicate 32 0) (List.replicate 5 0) 0
theorem newS_eq : newS = svRow zeroC zeroC 0 := by decide +kernel
theorem newS_two : TwoC zeroC zeroC 0 := ⟨by decide +kernel, by decide +kernel, by decide +kernel, by decide +kernel, by decide⟩
end Go.Proofs.YthoaofbhppdfoaaDoor
