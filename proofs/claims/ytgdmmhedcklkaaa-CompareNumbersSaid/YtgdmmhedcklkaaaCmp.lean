/- Records of what was retired, and how they are compared. -/
import Derived.Test.YtgdmmhedcklkaaaProg
import Derived.Test.YtgdmmhedcklkaaaBase
namespace Go.Proofs.Ytgdmmhedcklkaaa
open Go.RowKit Go.Dio

/-- What was retired. -/
structure RetV where
  pc : Int
  val : Int
  rd : Int
  st : Bool
  addr : Int
  data : Int
  mask : Int
  deriving DecidableEq

def RetV.cells (r : RetV) : List Value := [.int .u32 r.pc, .int .u32 r.val, .int .i64 r.rd, .bool r.st, .int .u32 r.addr, .int .u32 r.data, .int .i64 r.mask]
def RetV.arr (r : RetV) : Array Value := #[.int .u32 r.pc, .int .u32 r.val, .int .i64 r.rd, .bool r.st, .int .u32 r.addr, .int .u32 r.data, .int .i64 r.mask]
theorem RetV.arr_size (r : RetV) : r.arr.size = 7 := rfl

theorem ret_beq (r s : RetV) : decide (r = s) = (r.pc == s.pc && (r.val == s.val && (r.rd == s.rd && (r.st == s.st && (r.addr == s.addr && (r.data == s.data && r.mask == s.mask)))))) := by
  cases r; cases s
  rw [Bool.eq_iff_iff]
  simp [RetV.mk.injEq]

/-- '==' on two of them. -/
theorem ret_eql (a0 a1 a2 : Int) (a3 : Bool) (a4 a5 a6 b0 b1 b2 : Int) (b3 : Bool) (b4 b5 b6 : Int) (w : World) :
    (Op.equalIn 10000 24 (.agg #[.int .u32 a0, .int .u32 a1, .int .i64 a2, .bool a3, .int .u32 a4, .int .u32 a5, .int .i64 a6])
      (.agg #[.int .u32 b0, .int .u32 b1, .int .i64 b2, .bool b3, .int .u32 b4, .int .u32 b5, .int .i64 b6])).run Try.prog w =
      .ok (a0 == b0 && (a1 == b1 && (a2 == b2 && (a3 == b3 && (a4 == b4 && (a5 == b5 && a6 == b6)))))) w := by
  have hs := Try.underlying24
  have h1 := run_equalIn_struct (P := Try.prog) w 9999 24 #[.int .u32 a0, .int .u32 a1, .int .i64 a2, .bool a3, .int .u32 a4, .int .u32 a5, .int .i64 a6] #[.int .u32 b0, .int .u32 b1, .int .i64 b2, .bool b3, .int .u32 b4, .int .u32 b5, .int .i64 b6] (by simp [Program.fieldsOf, hs]) (by kernel_rfl)
  rw [h1]
  simp only [Program.fieldsOf, hs]
  by_cases e0 : a0 = b0
  rotate_left
  · go_simp
  by_cases e1 : a1 = b1
  rotate_left
  · go_simp
  by_cases e2 : a2 = b2
  rotate_left
  · go_simp
  by_cases e3 : a3 = b3
  rotate_left
  · go_simp
  by_cases e4 : a4 = b4
  rotate_left
  · go_simp
  by_cases e5 : a5 = b5
  rotate_left
  · go_simp
  by_cases e6 : a6 = b6
  rotate_left
  · go_simp
  go_simp

theorem ret_eq (r s : RetV) (w : World) : (Op.equalIn 10000 24 (.agg r.arr) (.agg s.arr)).run Try.prog w = .ok (decide (r = s)) w := by
  rw [ret_beq]
  exact ret_eql r.pc r.val r.rd r.st r.addr r.data r.mask s.pc s.val s.rd s.st s.addr s.data s.mask w

theorem info_ret : (Try.prog.info? 24).map (·.size) = some 7 := by kernel_rfl

set_option maxHeartbeats 400000 in
theorem Same_calls (r s : RetV) (w : World) :
    Calls Try.prog 7 #[.agg r.arr, .agg s.arr] w fun e w' => e = .returned (.bool (decide (r = s))) ∧ Below w.heap.size w w' := by
  have hq := ret_eq r s
  go_enter Try.func7, Try.ntmps7
  go_upto_region 1 with (fail)
  obtain ⟨W, hW⟩ : ∃ W, W = (w.alloc (.cells r.arr 24)).alloc (.cells s.arr 24) := ⟨_, rfl⟩
  have hb1 : W.heap[w.heap.size]? = some (.cells r.arr 24 (0, 0)) := by rw [hW]; exact heap_old (Go.heap_alloc_last _ _) _
  have hb2 : W.heap[w.heap.size + 1]? = some (.cells s.arr 24 (0, 0)) := by rw [hW]; simpa using Go.heap_alloc_last (w.alloc (.cells r.arr 24)) (.cells s.arr 24)
  have hB : Below w.heap.size w W := by rw [hW]; exact ((Below.refl _ _).alloc (Nat.le_refl _) _).alloc (by simp) _
  rw [← hW]
  clear hW
  have l1 : W.rangeAt w.heap.size 0 r.arr.toList := row_range hb1
  have l2 : W.rangeAt (w.heap.size + 1) 0 s.arr.toList := row_range hb2
  have HB1 := Lib.hid hb1
  have HB2 := Lib.hid hb2
  clear hb1 hb2
  go_wp2_with (first
    | go_skip
    | (refine L_load 24 (.tmp 2) rfl (by kernel_rfl) _ _ rfl _ l1 Try.underlying24 rfl 7 info_ret r.arr_size ?_)
    | (refine L_load 24 (.tmp 3) rfl (by kernel_rfl) _ _ rfl _ l2 Try.underlying24 rfl 7 info_ret s.arr_size ?_))
  go_ret
  exact ⟨rfl, hB⟩
end Go.Proofs.Ytgdmmhedcklkaaa
