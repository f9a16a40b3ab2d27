/- Records of what was retired, and how they are compared. -/
import Derived.Test.YtmdjhahafjlebaaGreatDoorProg
import Derived.Test.YtmdjhahafjlebaaGreatDoorQD00
import Derived.Test.YtmdjhahafjlebaaGreatDoorQD03
namespace Go.Proofs.YtmdjhahafjlebaaGreatDoor
open Go.RowKit Go.Dio

/-- What was retired. -/
structure RetV where
  pc : Int
  val : Int
  rd : Int
  st : Bool
  addr : Int
  data : Int
  mask : Int
  deriving DecidableEq

def RetV.cells (r : RetV) : List Value := [.int .u32 r.pc, .int .u32 r.val, .int .i64 r.rd, .bool r.st, .int .u32 r.addr, .int .u32 r.data, .int .i64 r.mask]
def RetV.arr (r : RetV) : Array Value := #[.int .u32 r.pc, .int .u32 r.val, .int .i64 r.rd, .bool r.st, .int .u32 r.addr, .int .u32 r.data, .int .i64 r.mask]
theorem RetV.arr_size (r : RetV) : r.arr.size = 7 := rfl

theorem ret_beq (r s : RetV) : decide (r = s) = (r.pc == s.pc && (r.val == s.val && (r.rd == s.rd && (r.st == s.st && (r.addr == s.addr && (r.data == s.data && r.mask == s.mask)))))) := by
  cases r; cases s
  rw [Bool.eq_iff_iff]
  simp [RetV.mk.injEq]

/-- '==' on two of them. -/
theorem ret_eql (a0 a1 a2 : Int) (a3 : Bool) (a4 a5 a6 b0 b1 b2 : Int) (b3 : Bool) (b4 b5 b6 : Int) (w : World) :
    (Op.equalIn 10000 38 (.agg #[.int .u32 a0, .int .u32 a1, .int .i64 a2, .bool a3, .int .u32 a4, .int .u32 a5, .int .i64 a6])
      (.agg #[.int .u32 b0, .int .u32 b1, .int .i64 b2, .bool b3, .int .u32 b4, .int .u32 b5, .int .i64 b6])).run Tryz.prog w =
      .ok (a0 == b0 && (a1 == b1 && (a2 == b2 && (a3 == b3 && (a4 == b4 && (a5 == b5 && a6 == b6)))))) w := by
  have hs := Tryz.underlying38
  have h1 := run_equalIn_struct (P := Tryz.prog) w 9999 38 #[.int .u32 a0, .int .u32 a1, .int .i64 a2, .bool a3, .int .u32 a4, .int .u32 a5, .int .i64 a6] #[.int .u32 b0, .int .u32 b1, .int .i64 b2, .bool b3, .int .u32 b4, .int .u32 b5, .int .i64 b6] (by simp [Program.fieldsOf, hs]) (by kernel_rfl)
  rw [h1]
  simp only [Program.fieldsOf, hs]
  by_cases e0 : a0 = b0
  rotate_left
  · go_simp
  by_cases e1 : a1 = b1
  rotate_left
  · go_simp
  by_cases e2 : a2 = b2
  rotate_left
  · go_simp
  by_cases e3 : a3 = b3
  rotate_left
  · go_simp
  by_cases e4 : a4 = b4
  rotate_left
  · go_simp
  by_cases e5 : a5 = b5
  rotate_left
  · go_simp
  by_cases e6 : a6 = b6
  rotate_left
  · go_simp
  go_simp

theorem ret_eq (r s : RetV) (w : World) : (Op.equalIn 10000 38 (.agg r.arr) (.agg s.arr)).run Tryz.prog w = .ok (decide (r = s)) w := by
  rw [ret_beq]
  exact ret_eql r.pc r.val r.rd r.st r.addr r.data r.mask s.pc s.val s.rd s.st s.addr s.data s.mask w

theorem info_ret : (Tryz.prog.info? 38).map (·.size) = some 7 := by kernel_rfl

end Go.Proofs.YtmdjhahafjlebaaGreatDoor

namespace Go.Proofs.YtmdjhahafjlebaaGreatDoor
open Go.RowKit Go.Dio

def u32 (x : Int) : Nat := (x % 4294967296).toNat
def s32 (n : Nat) : Int := if n < 2147483648 then (n : Int) else (n : Int) - 4294967296
def fb (w a n : Nat) : Nat := w / 2 ^ a % 2 ^ n
def sx (n b : Nat) : Int := if n % 2 ^ b < 2 ^ (b - 1) then ((n % 2 ^ b : Nat) : Int) else ((n % 2 ^ b : Nat) : Int) - 2 ^ b
def immI (w : Nat) : Int := sx (fb w 20 12) 12
def immS (w : Nat) : Int := sx (fb w 25 7 * 32 + fb w 7 5) 12
def bN (a b c d : Nat) : Nat := a * 4096 + b * 2048 + c * 32 + d * 2
def immB (w : Nat) : Int := sx (bN (fb w 31 1) (fb w 7 1) (fb w 25 6) (fb w 8 4)) 13
def immU (w : Nat) : Int := s32 (fb w 12 20 * 4096)
def jN (a b c d : Nat) : Nat := a * 1048576 + b * 4096 + c * 2048 + d * 2
def immJ (w : Nat) : Int := sx (jN (fb w 31 1) (fb w 12 8) (fb w 20 1) (fb w 21 10)) 21

structure InstV where
  op : Nat
  rd : Nat
  r1 : Nat
  r2 : Nat
  imm : Int
  deriving DecidableEq
def noI : InstV := ⟨0, 0, 0, 0, 0⟩
def withI (op : Nat) (i : InstV) : InstV := if op = 0 then noI else { i with op := op }
def opB (f3 : Nat) : Nat := nth [5, 6, 0, 0, 7, 8, 9, 10] f3
def opL (f3 : Nat) : Nat := nth [11, 12, 13, 0, 14, 15, 0, 0] f3
def opS (f3 : Nat) : Nat := nth [16, 17, 18, 0, 0, 0, 0, 0] f3
def opI (f3 : Nat) : Nat := nth [19, 0, 20, 21, 22, 0, 23, 24] f3
def opR0 (f3 : Nat) : Nat := nth [28, 30, 31, 32, 33, 34, 36, 37] f3
def opR1 (f3 : Nat) : Nat := nth [38, 39, 40, 41, 42, 43, 44, 45] f3
def opR (f7 f3 : Nat) : Nat := if f7 = 0 then opR0 f3 else if f7 = 1 then opR1 f3 else if f7 = 32 ∧ f3 = 0 then 29 else if f7 = 32 ∧ f3 = 5 then 35 else 0
def opC (f3 : Nat) : Nat := nth [0, 50, 51, 52, 0, 53, 54, 55] f3
def immP (w f3 f7 rd r1 r2 : Nat) : InstV :=
  if f3 ≠ 1 ∧ f3 ≠ 5 then withI (opI f3) ⟨0, rd, r1, 0, immI w⟩
  else if f3 = 1 ∧ f7 = 0 then ⟨25, rd, r1, 0, (r2 : Int)⟩
  else if f3 = 5 ∧ f7 = 0 then ⟨26, rd, r1, 0, (r2 : Int)⟩
  else if f3 = 5 ∧ f7 = 32 then ⟨27, rd, r1, 0, (r2 : Int)⟩
  else noI
def sysP (w f3 rd r1 : Nat) : InstV :=
  if w = 115 then ⟨47, 0, 0, 0, 0⟩ else if w = 1048691 then ⟨48, 0, 0, 0, 0⟩ else if w = 807403635 then ⟨49, 0, 0, 0, 0⟩
  else withI (opC f3) ⟨0, rd, r1, 0, ((fb w 20 12 : Nat) : Int)⟩
def codeP (w code f3 f7 rd r1 r2 : Nat) : InstV :=
  if code = 55 then ⟨1, rd, 0, 0, immU w⟩
  else if code = 23 then ⟨2, rd, 0, 0, immU w⟩
  else if code = 111 then ⟨3, rd, 0, 0, immJ w⟩
  else if code = 103 then (if f3 = 0 then ⟨4, rd, r1, 0, immI w⟩ else noI)
  else if code = 99 then withI (opB f3) ⟨0, 0, r1, r2, immB w⟩
  else if code = 3 then withI (opL f3) ⟨0, rd, r1, 0, immI w⟩
  else if code = 35 then withI (opS f3) ⟨0, 0, r1, r2, immS w⟩
  else if code = 19 then immP w f3 f7 rd r1 r2
  else if code = 51 then withI (opR f7 f3) ⟨0, rd, r1, r2, 0⟩
  else if code = 15 then (if f3 = 0 then ⟨46, 0, 0, 0, 0⟩ else noI)
  else if code = 115 then sysP w f3 rd r1
  else noI
def decodeP (w : Nat) : InstV := codeP w (fb w 0 7) (fb w 12 3) (fb w 25 7) (fb w 7 5) (fb w 15 5) (fb w 20 5)

def bitP (b : Bool) : Nat := if b then 1 else 0
def aluP (op a b : Nat) : Nat :=
  match op with
  | 19 | 28 => u32 ((a : Int) + b)
  | 29 => u32 ((a : Int) - b)
  | 20 | 31 => bitP (decide (s32 a < s32 b))
  | 21 | 32 => bitP (decide (a < b))
  | 22 | 33 => a ^^^ b
  | 23 | 36 => a ||| b
  | 24 | 37 => a &&& b
  | 25 | 30 => u32 ((a : Int) * 2 ^ (b % 32))
  | 26 | 34 => a / 2 ^ (b % 32)
  | 27 | 35 => u32 (s32 a / 2 ^ (b % 32))
  | 38 => u32 ((a : Int) * b)
  | 39 => u32 (s32 a * s32 b / 4294967296)
  | 40 => u32 (s32 a * b / 4294967296)
  | 41 => u32 ((a : Int) * b / 4294967296)
  | 42 => if b = 0 then 4294967295 else u32 ((s32 a).tdiv (s32 b))
  | 43 => if b = 0 then 4294967295 else a / b
  | 44 => if b = 0 then a else u32 ((s32 a).tmod (s32 b))
  | 45 => if b = 0 then a else a % b
  | _ => 0
def takenP (op a b : Nat) : Bool :=
  match op with
  | 5 => decide (a = b)
  | 6 => decide (a ≠ b)
  | 7 => decide (s32 a < s32 b)
  | 8 => decide (s32 b ≤ s32 a)
  | 9 => decide (a < b)
  | 10 => decide (b ≤ a)
  | _ => false
def sizeP : Nat → Nat | 11 | 14 | 16 => 1 | 12 | 15 | 17 => 2 | 13 | 18 => 4 | _ => 0
def fitsP (op addr : Nat) : Bool := decide (0 < sizeP op) && decide (addr % sizeP op = 0)
def loadP (op addr word : Nat) : Nat :=
  if fitsP op addr = false ∨ 16 ≤ op then 0 else
  match op with
  | 11 => u32 (sx (word / 2 ^ (addr % 4 * 8)) 8)
  | 12 => u32 (sx (word / 2 ^ (addr % 4 * 8)) 16)
  | 14 => word / 2 ^ (addr % 4 * 8) % 256
  | 15 => word / 2 ^ (addr % 4 * 8) % 65536
  | _ => word / 2 ^ (addr % 4 * 8)
def storeD (op addr n : Nat) : Nat := if fitsP op addr = false ∨ op < 16 then 0 else n % 2 ^ (8 * sizeP op) * 2 ^ (addr % 4 * 8)
def storeM (op addr : Nat) : Nat := if fitsP op addr = false ∨ op < 16 then 0 else (2 ^ sizeP op - 1) * 2 ^ (addr % 4)
def devP (addr : Nat) : Bool := decide (addr = 268435456) || decide (addr = 268435460)
def fetchP (pc : Nat) : Nat × Bool := if pc % 4 ≠ 0 then (0, true) else if 4096 ≤ pc then (1, true) else (0, false)
def accessP (op addr : Nat) : Nat × Bool :=
  if sizeP op = 0 then (0, false)
  else if fitsP op addr = false then (if 16 ≤ op then 6 else 4, true)
  else if addr < 4096 ∨ (op = 18 ∧ devP addr = true) then (0, false)
  else (if 16 ≤ op then 7 else 5, true)
def idxP (c : Int) : Int := if c = 773 then 0 else if c = 832 then 1 else if c = 833 then 2 else if c = 834 then 3 else if c = 835 then 4 else -1

structure MadeV where
  r : RetV
  next : Nat
  csrs : List Nat
def low2 (n : Nat) : Nat := n / 4 * 4
def trapP (pc : Nat) (csrs : List Nat) (cause val : Nat) : MadeV :=
  ⟨⟨pc, 0, 0, false, 0, 0, 0⟩, nth csrs 0, ((csrs.set 2 (low2 pc)).set 3 cause).set 4 val⟩
def writeR (pc rd n : Nat) : RetV := if rd = 0 then ⟨pc, 0, 0, false, 0, 0, 0⟩ else ⟨pc, n, rd, false, 0, 0, 0⟩
def jumpP (pc : Nat) (csrs : List Nat) (i : InstV) (tg : Nat) : MadeV :=
  if tg % 4 ≠ 0 then trapP pc csrs 0 tg else ⟨writeR pc i.rd (u32 ((pc : Int) + 4)), tg, csrs⟩
def moveP (pc a b : Nat) (csrs : List Nat) (i : InstV) (word : Nat) : MadeV :=
  let addr := u32 ((a : Int) + i.imm)
  if (accessP i.op addr).2 = true then trapP pc csrs (accessP i.op addr).1 addr
  else if i.op ≤ 15 then ⟨writeR pc i.rd (loadP i.op addr word), u32 ((pc : Int) + 4), csrs⟩
  else ⟨⟨pc, 0, 0, true, low2 addr, storeD i.op addr b, storeM i.op addr⟩, if addr = 268435460 then pc else u32 ((pc : Int) + 4), csrs⟩
def csrN (op r1 a old : Nat) : Nat :=
  let n := if 53 ≤ op then r1 else a
  if r1 = 0 ∧ op ≠ 50 ∧ op ≠ 53 then old
  else if op = 51 ∨ op = 54 then n ||| old else if op = 52 ∨ op = 55 then old &&& (4294967295 ^^^ n) else n
def csrP (pc w a : Nat) (csrs : List Nat) (i : InstV) : MadeV :=
  if idxP i.imm < 0 then trapP pc csrs 2 w
  else
    let k := (idxP i.imm).toNat
    let n := csrN i.op i.r1 a (nth csrs k)
    ⟨writeR pc i.rd (nth csrs k), u32 ((pc : Int) + 4), csrs.set k (if k = 0 ∨ k = 2 then low2 n else n)⟩
/-- What an instruction makes. -/
def doP (pc w a b : Nat) (csrs : List Nat) (word : Nat) : MadeV :=
  let i := decodeP w
  if i.op = 0 then trapP pc csrs 2 w
  else if i.op = 47 then trapP pc csrs 11 0
  else if i.op = 48 then trapP pc csrs 3 0
  else if i.op = 49 then ⟨⟨pc, 0, 0, false, 0, 0, 0⟩, nth csrs 2, csrs⟩
  else if 50 ≤ i.op then csrP pc w a csrs i
  else if i.op = 3 then jumpP pc csrs i (u32 ((pc : Int) + i.imm))
  else if i.op = 4 then jumpP pc csrs i (u32 ((a : Int) + i.imm) / 2 * 2)
  else if takenP i.op a b = true then jumpP pc csrs i (u32 ((pc : Int) + i.imm))
  else if 11 ≤ i.op ∧ i.op ≤ 18 then moveP pc a b csrs i word
  else
    let r := if i.op = 1 then writeR pc i.rd (u32 i.imm) else if i.op = 2 then writeR pc i.rd (u32 ((pc : Int) + i.imm))
      else if 19 ≤ i.op ∧ i.op ≤ 27 then writeR pc i.rd (aluP i.op a (u32 i.imm))
      else if 28 ≤ i.op ∧ i.op ≤ 45 then writeR pc i.rd (aluP i.op a b) else ⟨pc, 0, 0, false, 0, 0, 0⟩
    ⟨r, u32 ((pc : Int) + 4), csrs⟩

/-- A machine. -/
structure MSt where
  pc : Nat
  regs : List Nat
  csrs : List Nat
  mem : List Nat
  trace : List Nat
  halted : Bool
  code : Nat
  steps : Nat
def madeP (s : MSt) : MadeV :=
  if (fetchP s.pc).2 = true then trapP s.pc s.csrs (fetchP s.pc).1 s.pc
  else
    let w := nth s.mem (s.pc / 4)
    let a := nth s.regs (fb w 15 5)
    let b := nth s.regs (fb w 20 5)
    doP s.pc w a b s.csrs (nth s.mem (u32 ((a : Int) + (decodeP w).imm) / 4))
def stepP (s : MSt) : MSt :=
  if s.halted = true then s
  else
    let x := madeP s
    let s1 : MSt := { s with pc := x.next, csrs := x.csrs, regs := if x.r.rd = 0 then s.regs else s.regs.set x.r.rd.toNat x.r.val.toNat, steps := s.steps + 1 }
    if x.r.st = true then
      if x.r.addr = 268435456 then { s1 with trace := s1.trace ++ [x.r.data.toNat] }
      else if x.r.addr = 268435460 then { s1 with halted := true, code := x.r.data.toNat }
      else { s1 with mem := s1.mem.set (x.r.addr.toNat / 4) (mrg (nth s1.mem (x.r.addr.toNat / 4)) x.r.data.toNat x.r.mask) }
    else s1
def retP (s : MSt) : RetV := if s.halted = true then ⟨0, 0, 0, false, 0, 0, 0⟩ else (madeP s).r
end Go.Proofs.YtmdjhahafjlebaaGreatDoor
