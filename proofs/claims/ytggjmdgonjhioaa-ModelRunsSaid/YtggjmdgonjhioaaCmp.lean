/- Records of what was retired, and how they are compared. -/
import Derived.Test.YtggjmdgonjhioaaProg
import Derived.Test.YtggjmdgonjhioaaBase
namespace Go.Proofs.Ytggjmdgonjhioaa
open Go.RowKit Go.Dio

/-- What was retired. -/
structure RetV where
  pc : Int
  val : Int
  rd : Int
  st : Bool
  addr : Int
  data : Int
  mask : Int
  deriving DecidableEq

def RetV.cells (r : RetV) : List Value := [.int .u32 r.pc, .int .u32 r.val, .int .i64 r.rd, .bool r.st, .int .u32 r.addr, .int .u32 r.data, .int .i64 r.mask]
def RetV.arr (r : RetV) : Array Value := #[.int .u32 r.pc, .int .u32 r.val, .int .i64 r.rd, .bool r.st, .int .u32 r.addr, .int .u32 r.data, .int .i64 r.mask]
theorem RetV.arr_size (r : RetV) : r.arr.size = 7 := rfl

theorem ret_beq (r s : RetV) : decide (r = s) = (r.pc == s.pc && (r.val == s.val && (r.rd == s.rd && (r.st == s.st && (r.addr == s.addr && (r.data == s.data && r.mask == s.mask)))))) := by
  cases r; cases s
  rw [Bool.eq_iff_iff]
  simp [RetV.mk.injEq]

/-- '==' on two of them. -/
theorem ret_eql (a0 a1 a2 : Int) (a3 : Bool) (a4 a5 a6 b0 b1 b2 : Int) (b3 : Bool) (b4 b5 b6 : Int) (w : World) :
    (Op.equalIn 10000 33 (.agg #[.int .u32 a0, .int .u32 a1, .int .i64 a2, .bool a3, .int .u32 a4, .int .u32 a5, .int .i64 a6])
      (.agg #[.int .u32 b0, .int .u32 b1, .int .i64 b2, .bool b3, .int .u32 b4, .int .u32 b5, .int .i64 b6])).run Try.prog w =
      .ok (a0 == b0 && (a1 == b1 && (a2 == b2 && (a3 == b3 && (a4 == b4 && (a5 == b5 && a6 == b6)))))) w := by
  have hs := Try.underlying33
  have h1 := run_equalIn_struct (P := Try.prog) w 9999 33 #[.int .u32 a0, .int .u32 a1, .int .i64 a2, .bool a3, .int .u32 a4, .int .u32 a5, .int .i64 a6] #[.int .u32 b0, .int .u32 b1, .int .i64 b2, .bool b3, .int .u32 b4, .int .u32 b5, .int .i64 b6] (by simp [Program.fieldsOf, hs]) (by kernel_rfl)
  rw [h1]
  simp only [Program.fieldsOf, hs]
  by_cases e0 : a0 = b0
  rotate_left
  · go_simp
  by_cases e1 : a1 = b1
  rotate_left
  · go_simp
  by_cases e2 : a2 = b2
  rotate_left
  · go_simp
  by_cases e3 : a3 = b3
  rotate_left
  · go_simp
  by_cases e4 : a4 = b4
  rotate_left
  · go_simp
  by_cases e5 : a5 = b5
  rotate_left
  · go_simp
  by_cases e6 : a6 = b6
  rotate_left
  · go_simp
  go_simp

theorem ret_eq (r s : RetV) (w : World) : (Op.equalIn 10000 33 (.agg r.arr) (.agg s.arr)).run Try.prog w = .ok (decide (r = s)) w := by
  rw [ret_beq]
  exact ret_eql r.pc r.val r.rd r.st r.addr r.data r.mask s.pc s.val s.rd s.st s.addr s.data s.mask w

theorem info_ret : (Try.prog.info? 33).map (·.size) = some 7 := by kernel_rfl

end Go.Proofs.Ytggjmdgonjhioaa
