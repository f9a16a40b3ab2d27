/- Code words with one bit turned or none; places of a row. -/
import Derived.Test.YthoaofbhppdfoaaDoorRowC
namespace Go.Proofs.YthoaofbhppdfoaaDoor
open Go.RowKit Go.Dio

/-- A number's code word, with one bit turned or none. -/
def wd (n : Nat) : Option Nat → Nat
  | none => enc n
  | some m => enc n ^^^ 2 ^ m
theorem dec_wd {n : Nat} (hn : n < 2 ^ 32) {o : Option Nat} (ho : ∀ m, o = some m → m < 39) : dec (wd n o) = (n, if o.isSome then 1 else 0) := by
  cases o with
  | none => exact dec_enc hn
  | some m => exact dec_flip hn (ho m rfl)
theorem mend_wd {n : Nat} (hn : n < 2 ^ 32) {o : Option Nat} (ho : ∀ m, o = some m → m < 39) : (mend (wd n o)).1 = enc n := by
  cases o with
  | none => exact congrArg Prod.fst (mend_enc hn)
  | some m => exact congrArg Prod.fst (mend_flip hn (ho m rfl))


theorem wd_zero : wd 0 none = 0 := by decide +kernel
theorem put_nat {l : List Nat} {k v : Nat} (h : k < l.length) : putL l (k : Int) v = l.set k (enc v) := by
  rw [putL, inn_of (by omega) (by omega)]; rfl
theorem flip_nat {l : List Nat} {c k m : Nat} (h : k < l.length) (hc : c = 39 * k + m) (hm : m < 39) : flipB l (c : Int) = true ∧ flipL l (c : Int) = l.set k (nth l k ^^^ 2 ^ m) := by
  have hb : flipB l (c : Int) = true := decide_eq_true (by omega)
  have e1 : c / 39 = k := by omega
  have e2 : c % 39 = m := by omega
  refine ⟨hb, ?_⟩
  rw [flipL, hb, if_pos rfl, Int.toNat_natCast, e1, e2]
theorem peek_nat' {l : List Nat} {k : Nat} (h : k < l.length) : peekL l (k : Int) = dec (nth l k) := by
  rw [peekL, inn_of (by omega) (by omega)]; rfl
/-- A word that is got: behind it there is none to be mended at that place. -/
theorem get_wd {l : List Nat} {k n : Nat} {o : Option Nat} (h : k < l.length) (hn : n < 2 ^ 32) (ho : ∀ m, o = some m → m < 39) (hw : nth l k = wd n o) :
    peekL l (k : Int) = (n, if o.isSome then 1 else 0) ∧ (getL l (k : Int)).length = l.length ∧ nth (getL l (k : Int)) k = wd n none ∧ ∀ j, j ≠ k → nth (getL l (k : Int)) j = nth l j := by
  have hp : peekL l (k : Int) = (n, if o.isSome then 1 else 0) := by rw [peek_nat' h, hw, dec_wd hn ho]
  refine ⟨hp, getL_len _ _, ?_, ?_⟩
  · unfold getL
    rw [inn_of (by omega) (by omega), Int.toNat_natCast, hw, dec_wd hn ho]
    cases o with
    | none => simp [hw]
    | some m =>
      simp only [Option.isSome_some, if_true, Bool.true_and, decide_true]
      rw [nth_set_eq h, mend_wd hn ho]; rfl
  · intro j hj
    unfold getL
    split
    · rw [Int.toNat_natCast, nth_set_ne (by omega)]
    · rfl
end Go.Proofs.YthoaofbhppdfoaaDoor
