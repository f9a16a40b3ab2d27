/- Law 17: SaveLast. -/
import Derived.Test.YthoaofbhppdfoaaDoorL17k
import Derived.Test.YthoaofbhppdfoaaDoorAskS
import Derived.Test.YthoaofbhppdfoaaDoorBook
namespace Go.Proofs.YthoaofbhppdfoaaDoor
open Go.RowKit Go.Dio
set_option linter.unusedSimpArgs false
set_option linter.unusedVariables false

/-- The row of two copies of which the latest is that of an ask. -/
def LastIs (l : List Nat) (x : AskS) : Prop := ∃ c0 c1 k, TwoC c0 c1 k ∧ l = svRow c0 c1 k ∧ latC c0 c1 k = saveV x.pc x.regs x.csrs x.n
theorem LastIs.start : LastIs (svRow zeroC zeroC 0) AskS.zero := ⟨zeroC, zeroC, 0, newS_two, rfl, rfl⟩
theorem LastIs.len {l : List Nat} {x : AskS} (h : LastIs l x) : l.length = 79 := by
  obtain ⟨c0, c1, k, h, rfl, _⟩ := h
  exact svRow_len h.l0 h.l1
theorem LastIs.clean {l : List Nat} {x : AskS} (h : LastIs l x) {j : Nat} (hj : j < 79) : (peekL l (j : Int)).2 = 0 ∧ getL l (j : Int) = l ∧ getF l (j : Int) = 0 := by
  obtain ⟨c0, c1, k, h, rfl, _⟩ := h
  exact ⟨by rw [h.peek hj], (h.get hj).1, (h.get hj).2⟩
theorem LastIs.save {l : List Nat} {x y : AskS} (h : LastIs l x) (hy : y.Ok) : LastIs (saveW l (saveV y.pc y.regs y.csrs y.n)) y := by
  obtain ⟨c0, c1, k, h, rfl, _⟩ := h
  have hs := h.save (saveV_len hy.lr hy.lc) (saveV_lt (n := y.n) hy.pc hy.br hy.bc)
  have hk := h.k1
  rcases (by omega : k = 0 ∨ k = 1) with rfl | rfl
  · obtain ⟨e, t⟩ := hs.1 rfl
    exact ⟨_, _, _, t, e, rfl⟩
  · obtain ⟨e, t⟩ := hs.2 rfl
    exact ⟨_, _, _, t, e, rfl⟩
theorem LastIs.load {l : List Nat} {x : AskS} (h : LastIs l x) (hx : x.Ok) : loadV l = .tuple #[.int .u32 (x.pc : Int), .agg (nums .u32 (0 :: x.regs.tail)), .agg (nums .u32 x.csrs), .int .i64 (cntP x.n : Int), .bool true] := by
  obtain ⟨c0, c1, k, h, rfl, e⟩ := h
  rw [h.load (by rw [e]; exact save_mark hx.lr hx.lc), e, cpV_save hx.lr hx.lc]
theorem info_askS : (Tryd.prog.info? 30).map (·.size) = some 40 := by kernel_rfl
theorem AskS.one (x : AskS) : x.cells.toArray.all (·.oneCell') = true := by
  simp [AskS.cells, vals, Value.oneCell']
theorem AskS.regs_at {w : World} {b o : Nat} {x : AskS} (hx : x.Ok) (h : w.rangeAt b o x.cells) : w.rangeAt b (o + 3) (nums .u32 x.regs).toList ∧ w.rangeAt b (o + 35) (nums .u32 x.csrs).toList := by
  constructor
  · intro j v hj
    rw [Nat.add_assoc]
    refine h (3 + j) v ?_
    have hj2 : j < x.regs.length := by have := (List.getElem?_eq_some_iff.1 hj).1; simpa [nums] using this
    rw [AskS.cells, List.getElem?_append_right (by simp), List.getElem?_append_left (by simp [vals]; omega)]
    simpa [nums, vals] using hj
  · intro j v hj
    rw [Nat.add_assoc]
    refine h (35 + j) v ?_
    rw [AskS.cells, List.getElem?_append_right (by simp; omega), List.getElem?_append_right (by simp [vals, hx.lr]; omega)]
    have e : 35 + j - [Value.int .i64 x.kind, Value.int .i64 x.n, Value.int .u32 (x.pc : Int)].length - (vals .u32 x.regs).length = j := by simp [vals, hx.lr]; omega
    rw [e]
    simpa [nums, vals] using hj

end Go.Proofs.YthoaofbhppdfoaaDoor
