/- Tapes of numbers, and rows of words: what they hold. -/
import Derived.Test.YtggjmdgonjhioaaRf5G
import Derived.Test.YtggjmdgonjhioaaInts
import Derived.Test.YtggjmdgonjhioaaApp
import Derived.Test.YtggjmdgonjhioaaBook
import Derived.Deep.Onto
import Derived.Test.YtggjmdgonjhioaaOwn2
namespace Go.Proofs.Ytggjmdgonjhioaa
open Go.RowKit Go.Dio
set_option linter.unusedSimpArgs false
set_option linter.unusedVariables false

theorem encW_lt (o rd r1 r2 : Nat) (imm : Int) (ho : o < 55) (hd : rd < 32) (h1 : r1 < 32) (h2 : r2 < 32) : encW ⟨o + 1, rd, r1, r2, imm⟩ < 2 ^ 32 := by
  have hc := codesL_lt o
  have hq1 := or_lt (nth codesL o) (rd * 128) hc (by omega)
  have hw0 := or_lt (nth codesL o ||| rd * 128) (r1 * 32768) hq1 (by omega)
  have hn := u32_lt imm
  have ee : encW ⟨o + 1, rd, r1, r2, imm⟩ = encX (fmtP (o + 1)) (nth codesL o ||| rd * 128 ||| r1 * 32768) (u32 imm) r2 := rfl
  rw [ee]
  generalize nth codesL o ||| rd * 128 ||| r1 * 32768 = w0 at *
  generalize u32 imm = n at *
  rcases fmt_cases o ho with h | h | h | h | h | h | h | h | h <;> rw [h]
  · obtain ⟨_, _, _, _, he, hl⟩ := enc_85 w0 n r2 hw0 hn h2; rw [← he]; exact hl
  · obtain ⟨_, _, _, _, _, _, _, _, _, _, _, _, _, _, _, _, _, _, _, _, _, _, _, _, he, hl⟩ := enc_74 w0 n r2 hw0 hn h2; rw [← he]; exact hl
  · obtain ⟨_, _, _, _, _, _, _, _, _, _, _, _, _, _, _, _, _, _, _, _, _, _, _, _, _, _, _, _, he, hl⟩ := enc_66 w0 n r2 hw0 hn h2; rw [← he]; exact hl
  · obtain ⟨_, _, _, _, _, _, _, _, _, _, _, _, _, _, _, _, he, hl⟩ := enc_83 w0 n r2 hw0 hn h2; rw [← he]; exact hl
  · obtain ⟨_, _, _, _, he, hl⟩ := enc_82 w0 n r2 hw0 hn h2; rw [← he]; exact hl
  · obtain ⟨_, _, _, _, _, _, he, hl⟩ := enc_72 w0 n r2 hw0 hn h2; rw [← he]; exact hl
  · obtain ⟨_, _, _, _, _, _, he, hl⟩ := enc_73 w0 n r2 hw0 hn h2; rw [← he]; exact hl
  · obtain ⟨_, _, _, _, _, _, he, hl⟩ := enc_67 w0 n r2 hw0 hn h2; rw [← he]; exact hl
  · rw [encX_78]; exact hw0
def wordP (op rd a b : Nat) (imm : Int) : Nat := (encP ⟨op, rd, a, b, imm⟩).1
theorem encP_lt (op rd a b : Nat) (imm : Int) (h0 : 1 ≤ op) (ho : op ≤ 55) (hd : rd < 32) (h1 : a < 32) (h2 : b < 32) : (encP ⟨op, rd, a, b, imm⟩).1 < 2 ^ 32 := by
  obtain ⟨o, rfl⟩ : ∃ o, op = o + 1 := ⟨op - 1, by omega⟩
  unfold encP
  split
  · exact encW_lt o rd a b imm (by omega) hd h1 h2
  · show 0 < 2 ^ 32; decide
theorem wordP_lt (op rd a b : Nat) (imm : Int) (h0 : 1 ≤ op) (ho : op ≤ 55) (hd : rd < 32) (h1 : a < 32) (h2 : b < 32) : wordP op rd a b imm < 2 ^ 32 := encP_lt op rd a b imm h0 ho hd h1 h2
theorem word_calls (op rd a b : Nat) (imm : Int) (z : World) (h0 : 1 ≤ op) (ho : op ≤ 55) (hd : rd < 32) (h1 : a < 32) (h2 : b < 32) :
    Calls Try.prog 28 #[.int .i64 (op : Int), .int .i64 (rd : Int), .int .i64 (a : Int), .int .i64 (b : Int), .int .i32 imm] z fun e z' => e = .returned (.int .u32 (wordP op rd a b imm : Int)) ∧ Upd [] z z' := by
  obtain ⟨o, rfl⟩ : ∃ o, op = o + 1 := ⟨op - 1, by omega⟩
  have E := Lib.hid (fun z => enc_calls o rd a b imm z (by omega) hd h1 h2)
  unfold wordP
  generalize hop : o + 1 = op at *
  clear h0 ho
  generalize encP ⟨op, rd, a, b, imm⟩ = R at *
  go_enter Try.func28, Try.ntmps28
  go_wp2_with (fail)
  refine (E.out _).mono ?_
  rintro e w1 ⟨rfl, u⟩
  go_wp2_with (fail)
  go_ret
  exact ⟨rfl, u⟩

/-- A row of the call's own, of words. -/
def Ow (base : Nat) (w : World) (v : Value) (l : List Nat) : Prop := w.ownsRow base 31 1 v l.length (vals .u32 l)
theorem info_w32k : (Try.prog.info? 31).map (fun i => (i.zero, i.size, i.bytes)) = some (some (.int .u32 0), 1, 4) := by kernel_rfl
theorem Ow.lt {base : Nat} {w : World} {v : Value} {l : List Nat} (h : Ow base w v l) : ∀ g ∈ v.ownBlock.toList, base ≤ g := fun g hg => (World.ownsRow.lt h g (by simpa using hg)).1
theorem upd_grown {w w' : World} {row : Option Nat} (hg : w.grownBy w' row) : Upd row.toList w w' :=
  ⟨hg.os, hg.tape, hg.output, hg.size, fun k hk hs => hg.block k hk (fun e => hs (by simp [← e]))⟩
theorem Ow.upd {base : Nat} {w w' : World} {v : Value} {l : List Nat} {S : List Nat} (h : Ow base w v l) (u : Upd S w w') (hS : ∀ g ∈ S, g < base) : Ow base w' v l :=
  own_upd h u (fun g hg hs => by have := (World.ownsRow.lt h g hg).1; have := hS g hs; omega)
theorem Ow.mono {base b2 : Nat} {w : World} {v : Value} {l : List Nat} (h : Ow base w v l) (hb : b2 ≤ base) : Ow b2 w v l := World.ownsRow.mono h hb
theorem Ow.words {base : Nat} {w : World} {v : Value} {l : List Nat} (h : Ow base w v l) :
    ∃ A cap, v = .slice A l.length cap ∧ l.length ≤ cap ∧ cap ≤ 9223372036854775807 ∧ NumsAt w .u32 A l ∧ ∀ a, A = some a → base ≤ a.block := by
  obtain ⟨A, cap, h1, _, h2, h3, h4, h5⟩ := nums_of_own h
  exact ⟨A, cap, h1, h2, h3, h4, h5⟩
theorem Ow.lit (w : World) (l : List Nat) (base : Nat) (hb : base ≤ w.heap.size) (hl : l.length ≤ 5000) : Ow base (w.alloc (.cells (nums .u32 l) 31)) (.slice (some ⟨w.heap.size, 0, none⟩) l.length l.length) l := by
  have := World.ownsRow_lit (base := base) (e := 31) (size := 1) w (nums .u32 l) l.length hb (by simp only [maxLen]; omega) (by rw [nums_size]; omega)
  exact this
theorem L_app {ops : Array Oper} {rest : List Oper} {o : Oper} {a : Act} {w : World} {Q : Exit → Act → World → Prop} (s x : Operand)
    (ho : o.op = .call { callee := .builtin .append, args := #[s, x], argTypes := #[23, 23] }) (hw : Region.wanted o (yielded ops a.tmps) = true)
    (base : Nat) (v : Value) (l : List Nat) (hs : a.eval s = v) (hO : Ow base w v l)
    (A : Option Addr) (m c : Nat) (ml : List Nat) (hx : a.eval x = .slice A m c) (hm : m = ml.length) (hA : NumsAt w .u32 A ml) (hl : l.length + ml.length ≤ 5000) (hbase : base ≤ w.heap.size)
    (h : ∀ v' w', Ow base w' v' (l ++ ml) → Upd v.ownBlock.toList w w' → wpList Try.prog ops Q rest (a.put o.dst v') w') :
    wpList Try.prog ops Q (o :: rest) a w := by
  subst hm
  refine L_append w s x 23 ho hw base 31 _ 1 4 Try.underlying23 info_w32k rfl (by omega) v l.length (vals .u32 l) hs hO A ml.length c (vals .u32 ml) hx (by simp [vals]) (srcAt_nums hA) (vals_one _ _) (by simp only [maxLen]; omega) (by omega) hbase ?_
  intro v' w' own g _
  refine h v' w' ?_ (upd_grown g)
  unfold Ow
  rw [vals_append, List.length_append]
  exact own

/-- A tape. -/
structure TapeAt (tb : Nat) (A : Option Addr) (L : List Int) (c at' : Nat) (w : World) : Prop where
  cell : w.heap[tb]? = some (.cells #[.slice A L.length c, .int .i64 (at' : Int)] 61 (0, 0))
  ints : IntsAt w A L
  lt : ∀ b o s, A = some ⟨b, o, s⟩ → b < tb
  le : at' ≤ L.length
  small : L.length ≤ 9223372036854775807
  wf : ∀ x ∈ L, -9223372036854775808 ≤ x ∧ x ≤ 9223372036854775807
theorem TapeAt.tb_lt {tb : Nat} {A : Option Addr} {L : List Int} {c at' : Nat} {w : World} (h : TapeAt tb A L c at' w) : tb < w.heap.size := lt_of_block h.cell
theorem ints_keepS {w w' : World} {A : Option Addr} {L : List Int} {S : List Nat} (h : IntsAt w A L) (u : Upd S w w') (hS : ∀ b o s, A = some ⟨b, o, s⟩ → b ∉ S) : IntsAt w' A L := fun h0 => by
  obtain ⟨b, o, hA, hb, hc⟩ := h h0
  exact ⟨b, o, hA, Nat.lt_of_lt_of_le hb u.size, fun i hi => by rw [← hc i hi]; exact World.cell?_of_block (w := w) (u.block b hb (hS b o none hA))⟩
theorem TapeAt.upd {tb : Nat} {A : Option Addr} {L : List Int} {c at' : Nat} {w w' : World} {S : List Nat} (h : TapeAt tb A L c at' w) (u : Upd S w w') (hS : ∀ g ∈ S, tb < g) : TapeAt tb A L c at' w' :=
  ⟨u.keep h.cell (fun hm => by have := hS tb hm; omega), ints_keepS h.ints u (fun b o s hA hm => by have := hS b hm; have := h.lt b o s hA; omega), h.lt, h.le, h.small, h.wf⟩
end Go.Proofs.Ytggjmdgonjhioaa
