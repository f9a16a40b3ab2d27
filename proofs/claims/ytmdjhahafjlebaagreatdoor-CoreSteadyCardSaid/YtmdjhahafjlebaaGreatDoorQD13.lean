/- A number that is brought into bounds. -/
import Derived.Test.YtmdjhahafjlebaaGreatDoorQD00
import Derived.WalkKit
import Derived.Test.YtmdjhahafjlebaaGreatDoorProg
import Derived.Test.YtmdjhahafjlebaaGreatDoorQD11
import Derived.Test.YtmdjhahafjlebaaGreatDoorQD12
import Derived.Deep.Onto
namespace Go.Proofs.YtmdjhahafjlebaaGreatDoor
open Go.RowKit Go.Dio
set_option linter.unusedSimpArgs false
set_option linter.unusedVariables false

def within (n lo hi : Int) : Int := if lo ≤ n ∧ n ≤ hi then n else lo + n % (hi - lo + 1)
theorem within_range {n lo hi : Int} (h : lo ≤ hi) : lo ≤ within n lo hi ∧ within n lo hi ≤ hi := by
  unfold within
  split
  · assumption
  · have h1 := Int.emod_nonneg n (show hi - lo + 1 ≠ 0 by omega)
    have h2 := Int.emod_lt_of_pos n (show 0 < hi - lo + 1 by omega)
    omega
theorem ret_i64 {a b : Int} (h : a = b) : Ending.returned (.int .i64 a) = Ending.returned (.int .i64 b) := by rw [h]
theorem Within_calls (n lo hi : Int) (w : World) (h0 : -1099511627776 ≤ lo) (h : lo ≤ hi) (h1 : hi ≤ 1099511627776) (hn : -9223372036854775808 ≤ n ∧ n ≤ 9223372036854775807) :
    Calls Tryz.prog 14 #[.int .i64 n, .int .i64 lo, .int .i64 hi] w fun e w' => e = .returned (.int .i64 (within n lo hi)) ∧ w' = w := by
  obtain ⟨hn0, hn1⟩ := hn
  rcases (by omega : (lo ≤ n ∧ n ≤ hi) ∨ (n < lo ∨ hi < n)) with g | g
  · have e : within n lo hi = n := if_pos g
    rw [e]
    clear e
    obtain ⟨g1, g2⟩ := g
    go_enter Tryz.func14, Tryz.ntmps14
    go_wp2_with (fail)
    go_ret
    exact ⟨rfl, rfl⟩
  · have e : within n lo hi = lo + n % (hi - lo + 1) := if_neg (by omega)
    rw [e]
    clear e
    obtain ⟨m, hm⟩ : ∃ m, hi - lo + 1 = m := ⟨_, rfl⟩
    obtain ⟨t, ht⟩ : ∃ t, n.tmod m = t := ⟨_, rfl⟩
    have m1 : 1 ≤ m := by omega
    have m2 : m ≤ 2199023255553 := by omega
    have m0 : (m == 0) = false := by rw [beq_eq_false_iff_ne]; omega
    have h1 := Int.emod_nonneg n (show m ≠ 0 by omega)
    have h2 := Int.emod_lt_of_pos n (show 0 < m by omega)
    have h3 : ((0 ≤ n ∨ m ∣ n) ∧ t = n % m) ∨ (0 < n % m ∧ t = n % m - m) := by
      rw [← ht, Int.tmod_eq_emod]
      by_cases hd : 0 ≤ n ∨ m ∣ n
      · rw [if_pos hd]; exact .inl ⟨hd, by omega⟩
      · rw [if_neg hd]
        refine .inr ⟨?_, by omega⟩
        have : n % m ≠ 0 := fun h => hd (.inr (Int.dvd_of_emod_eq_zero h))
        omega
    have he : n % m = if t < 0 then t + m else t := by split <;> omega
    have t1 : -m < t := by omega
    have t2 : t < m := by omega
    clear h1 h2 h3
    rw [hm, he]
    have dn : (decide (lo ≤ n) && decide (n ≤ hi)) = false := by
      rw [Bool.and_eq_false_iff, decide_eq_false_iff_not, decide_eq_false_iff_not]; omega
    have HM := Lib.hid hm
    clear he
    rcases g with g | g
    all_goals
      rcases Int.lt_or_le t 0 with h3 | h3
      · rw [if_pos h3]
        go_enter Tryz.func14, Tryz.ntmps14
        go_wp2_with (fail)
        go_ret
        exact ⟨ret_i64 (by have := HM.out; omega), rfl⟩
      · rw [if_neg (by omega)]
        go_enter Tryz.func14, Tryz.ntmps14
        go_wp2_with (fail)
        go_ret
        exact ⟨rfl, rfl⟩
end Go.Proofs.YtmdjhahafjlebaaGreatDoor

namespace Go.Dio
open Go Go.RowKit
theorem own_upd {w w' : World} {base e size n : Nat} {v : Value} {xs : List Value} {S : List Nat} (h : w.ownsRow base e size v n xs) (u : Upd S w w') (hS : ∀ g, v.ownBlock = some g → g ∉ S) : w'.ownsRow base e size v n xs := by
  obtain ⟨h1, h2⟩ := h
  refine ⟨h1, ?_⟩
  rcases h2 with h2 | ⟨g, cap, cur, hv, hg, hh, r⟩
  · exact Or.inl h2
  · exact Or.inr ⟨g, cap, cur, hv, hg, by rw [u.block g (lt_of_block hh) (hS g (by rw [hv]; rfl))]; exact hh, r⟩


end Go.Dio

namespace Go.Proofs.YtmdjhahafjlebaaGreatDoor
open Go.RowKit Go.Dio
set_option linter.unusedSimpArgs false
set_option linter.unusedVariables false

theorem encW_lt (o rd r1 r2 : Nat) (imm : Int) (ho : o < 55) (hd : rd < 32) (h1 : r1 < 32) (h2 : r2 < 32) : encW ⟨o + 1, rd, r1, r2, imm⟩ < 2 ^ 32 := by
  have hc := codesL_lt o
  have hq1 := or_lt (nth codesL o) (rd * 128) hc (by omega)
  have hw0 := or_lt (nth codesL o ||| rd * 128) (r1 * 32768) hq1 (by omega)
  have hn := u32_lt imm
  have ee : encW ⟨o + 1, rd, r1, r2, imm⟩ = encX (fmtP (o + 1)) (nth codesL o ||| rd * 128 ||| r1 * 32768) (u32 imm) r2 := rfl
  rw [ee]
  generalize nth codesL o ||| rd * 128 ||| r1 * 32768 = w0 at *
  generalize u32 imm = n at *
  rcases fmt_cases o ho with h | h | h | h | h | h | h | h | h <;> rw [h]
  · obtain ⟨_, _, _, _, he, hl⟩ := enc_85 w0 n r2 hw0 hn h2; rw [← he]; exact hl
  · obtain ⟨_, _, _, _, _, _, _, _, _, _, _, _, _, _, _, _, _, _, _, _, _, _, _, _, he, hl⟩ := enc_74 w0 n r2 hw0 hn h2; rw [← he]; exact hl
  · obtain ⟨_, _, _, _, _, _, _, _, _, _, _, _, _, _, _, _, _, _, _, _, _, _, _, _, _, _, _, _, he, hl⟩ := enc_66 w0 n r2 hw0 hn h2; rw [← he]; exact hl
  · obtain ⟨_, _, _, _, _, _, _, _, _, _, _, _, _, _, _, _, he, hl⟩ := enc_83 w0 n r2 hw0 hn h2; rw [← he]; exact hl
  · obtain ⟨_, _, _, _, he, hl⟩ := enc_82 w0 n r2 hw0 hn h2; rw [← he]; exact hl
  · obtain ⟨_, _, _, _, _, _, he, hl⟩ := enc_72 w0 n r2 hw0 hn h2; rw [← he]; exact hl
  · obtain ⟨_, _, _, _, _, _, he, hl⟩ := enc_73 w0 n r2 hw0 hn h2; rw [← he]; exact hl
  · obtain ⟨_, _, _, _, _, _, he, hl⟩ := enc_67 w0 n r2 hw0 hn h2; rw [← he]; exact hl
  · rw [encX_78]; exact hw0
def wordP (op rd a b : Nat) (imm : Int) : Nat := (encP ⟨op, rd, a, b, imm⟩).1
theorem encP_lt (op rd a b : Nat) (imm : Int) (h0 : 1 ≤ op) (ho : op ≤ 55) (hd : rd < 32) (h1 : a < 32) (h2 : b < 32) : (encP ⟨op, rd, a, b, imm⟩).1 < 2 ^ 32 := by
  obtain ⟨o, rfl⟩ : ∃ o, op = o + 1 := ⟨op - 1, by omega⟩
  unfold encP
  split
  · exact encW_lt o rd a b imm (by omega) hd h1 h2
  · show 0 < 2 ^ 32; decide
theorem wordP_lt (op rd a b : Nat) (imm : Int) (h0 : 1 ≤ op) (ho : op ≤ 55) (hd : rd < 32) (h1 : a < 32) (h2 : b < 32) : wordP op rd a b imm < 2 ^ 32 := encP_lt op rd a b imm h0 ho hd h1 h2
theorem word_calls (op rd a b : Nat) (imm : Int) (z : World) (h0 : 1 ≤ op) (ho : op ≤ 55) (hd : rd < 32) (h1 : a < 32) (h2 : b < 32) :
    Calls Tryz.prog 60 #[.int .i64 (op : Int), .int .i64 (rd : Int), .int .i64 (a : Int), .int .i64 (b : Int), .int .i32 imm] z fun e z' => e = .returned (.int .u32 (wordP op rd a b imm : Int)) ∧ Upd [] z z' := by
  obtain ⟨o, rfl⟩ : ∃ o, op = o + 1 := ⟨op - 1, by omega⟩
  have E := Lib.hid (fun z => enc_calls o rd a b imm z (by omega) hd h1 h2)
  unfold wordP
  generalize hop : o + 1 = op at *
  clear h0 ho
  generalize encP ⟨op, rd, a, b, imm⟩ = R at *
  go_enter Tryz.func60, Tryz.ntmps60
  go_wp2_with (fail)
  refine (E.out _).mono ?_
  rintro e w1 ⟨rfl, u⟩
  go_wp2_with (fail)
  go_ret
  exact ⟨rfl, u⟩

/-- A row of the call's own, of words. -/
def Ow (base : Nat) (w : World) (v : Value) (l : List Nat) : Prop := w.ownsRow base 36 1 v l.length (vals .u32 l)
theorem info_w32k : (Tryz.prog.info? 36).map (fun i => (i.zero, i.size, i.bytes)) = some (some (.int .u32 0), 1, 4) := by kernel_rfl
theorem Ow.lt {base : Nat} {w : World} {v : Value} {l : List Nat} (h : Ow base w v l) : ∀ g ∈ v.ownBlock.toList, base ≤ g := fun g hg => (World.ownsRow.lt h g (by simpa using hg)).1
theorem upd_grown {w w' : World} {row : Option Nat} (hg : w.grownBy w' row) : Upd row.toList w w' :=
  ⟨hg.os, hg.tape, hg.output, hg.size, fun k hk hs => hg.block k hk (fun e => hs (by simp [← e]))⟩
theorem Ow.upd {base : Nat} {w w' : World} {v : Value} {l : List Nat} {S : List Nat} (h : Ow base w v l) (u : Upd S w w') (hS : ∀ g ∈ S, g < base) : Ow base w' v l :=
  own_upd h u (fun g hg hs => by have := (World.ownsRow.lt h g hg).1; have := hS g hs; omega)
theorem Ow.mono {base b2 : Nat} {w : World} {v : Value} {l : List Nat} (h : Ow base w v l) (hb : b2 ≤ base) : Ow b2 w v l := World.ownsRow.mono h hb
theorem Ow.words {base : Nat} {w : World} {v : Value} {l : List Nat} (h : Ow base w v l) :
    ∃ A cap, v = .slice A l.length cap ∧ l.length ≤ cap ∧ cap ≤ 9223372036854775807 ∧ NumsAt w .u32 A l ∧ ∀ a, A = some a → base ≤ a.block := by
  obtain ⟨A, cap, h1, _, h2, h3, h4, h5⟩ := nums_of_own h
  exact ⟨A, cap, h1, h2, h3, h4, h5⟩
theorem Ow.lit (w : World) (l : List Nat) (base : Nat) (hb : base ≤ w.heap.size) (hl : l.length ≤ 5000) : Ow base (w.alloc (.cells (nums .u32 l) 36)) (.slice (some ⟨w.heap.size, 0, none⟩) l.length l.length) l := by
  have := World.ownsRow_lit (base := base) (e := 36) (size := 1) w (nums .u32 l) l.length hb (by simp only [maxLen]; omega) (by rw [nums_size]; omega)
  exact this
theorem L_app {ops : Array Oper} {rest : List Oper} {o : Oper} {a : Act} {w : World} {Q : Exit → Act → World → Prop} (s x : Operand)
    (ho : o.op = .call { callee := .builtin .append, args := #[s, x], argTypes := #[23, 23] }) (hw : Region.wanted o (yielded ops a.tmps) = true)
    (base : Nat) (v : Value) (l : List Nat) (hs : a.eval s = v) (hO : Ow base w v l)
    (A : Option Addr) (m c : Nat) (ml : List Nat) (hx : a.eval x = .slice A m c) (hm : m = ml.length) (hA : NumsAt w .u32 A ml) (hl : l.length + ml.length ≤ 5000) (hbase : base ≤ w.heap.size)
    (h : ∀ v' w', Ow base w' v' (l ++ ml) → Upd v.ownBlock.toList w w' → wpList Tryz.prog ops Q rest (a.put o.dst v') w') :
    wpList Tryz.prog ops Q (o :: rest) a w := by
  subst hm
  refine L_append w s x 23 ho hw base 36 _ 1 4 Tryz.underlying23 info_w32k rfl (by omega) v l.length (vals .u32 l) hs hO A ml.length c (vals .u32 ml) hx (by simp [vals]) (srcAt_nums hA) (vals_one _ _) (by simp only [maxLen]; omega) (by omega) hbase ?_
  intro v' w' own g _
  refine h v' w' ?_ (upd_grown g)
  unfold Ow
  rw [vals_append, List.length_append]
  exact own

/-- A tape. -/
structure TapeAt (tb : Nat) (A : Option Addr) (L : List Int) (c at' : Nat) (w : World) : Prop where
  cell : w.heap[tb]? = some (.cells #[.slice A L.length c, .int .i64 (at' : Int)] 63 (0, 0))
  ints : IntsAt w A L
  lt : ∀ b o s, A = some ⟨b, o, s⟩ → b < tb
  le : at' ≤ L.length
  small : L.length ≤ 9223372036854775807
  wf : ∀ x ∈ L, -9223372036854775808 ≤ x ∧ x ≤ 9223372036854775807
theorem TapeAt.tb_lt {tb : Nat} {A : Option Addr} {L : List Int} {c at' : Nat} {w : World} (h : TapeAt tb A L c at' w) : tb < w.heap.size := lt_of_block h.cell
theorem ints_keepS {w w' : World} {A : Option Addr} {L : List Int} {S : List Nat} (h : IntsAt w A L) (u : Upd S w w') (hS : ∀ b o s, A = some ⟨b, o, s⟩ → b ∉ S) : IntsAt w' A L := fun h0 => by
  obtain ⟨b, o, hA, hb, hc⟩ := h h0
  exact ⟨b, o, hA, Nat.lt_of_lt_of_le hb u.size, fun i hi => by rw [← hc i hi]; exact World.cell?_of_block (w := w) (u.block b hb (hS b o none hA))⟩
theorem TapeAt.upd {tb : Nat} {A : Option Addr} {L : List Int} {c at' : Nat} {w w' : World} {S : List Nat} (h : TapeAt tb A L c at' w) (u : Upd S w w') (hS : ∀ g ∈ S, tb < g) : TapeAt tb A L c at' w' :=
  ⟨u.keep h.cell (fun hm => by have := hS tb hm; omega), ints_keepS h.ints u (fun b o s hA hm => by have := hS b hm; have := h.lt b o s hA; omega), h.lt, h.le, h.small, h.wf⟩
end Go.Proofs.YtmdjhahafjlebaaGreatDoor

namespace Go.Proofs.YtmdjhahafjlebaaGreatDoor
open Go.RowKit Go.Dio
set_option linter.unusedSimpArgs false
set_option linter.unusedVariables false

set_option maxHeartbeats 1000000 in
theorem Next_calls (tb : Nat) (A : Option Addr) (L : List Int) (c at' n : Nat) (w : World) (T : TapeAt tb A L c at' w) (h1 : 1 ≤ n) (h2 : n ≤ 1099511627776) :
    Calls Tryz.prog 27 #[.pointer (some ⟨tb, 0, none⟩), .int .i64 (n : Int)] w fun e w' => ∃ r a2, r < n ∧ e = .returned (.int .i64 (r : Int)) ∧ TapeAt tb A L c a2 w' ∧ Upd [tb] w w' := by
  have d1 : decide ((n : Int) < 1) = false := decide_eq_false (by omega)
  have TT := Lib.hid T
  have n0 : ∀ x : Near [] w, x.1.cell? ⟨tb, 0, none⟩ = some (.slice A L.length c) := fun x => by rw [cells_of (x.2.keep T.cell (by simp))]; rfl
  have n1 : ∀ x : Near [] w, x.1.cell? ⟨tb, 1, none⟩ = some (.int .i64 (at' : Int)) := fun x => by rw [cells_of (x.2.keep T.cell (by simp))]; rfl
  have c0 : w.cell? ⟨tb, 0, none⟩ = some (.slice A L.length c) := n0 ⟨w, Upd.refl _ _⟩
  have c1 : w.cell? ⟨tb, 1, none⟩ = some (.int .i64 (at' : Int)) := n1 ⟨w, Upd.refl _ _⟩
  have f1 : w.frozen? ⟨tb, 1, none⟩ = false := free_of T.cell 1
  have hle := T.le
  have hsm := T.small
  rcases Nat.lt_or_ge at' L.length with hlt | hge
  · have d2 : decide ((L.length : Int) ≤ (at' : Int)) = false := decide_eq_false (by omega)
    obtain ⟨b, o, hA, hb, hc⟩ := T.ints (by omega)
    have hbt := T.lt b o none hA
    have hcc := hc at' hlt
    have hvw : -9223372036854775808 ≤ nthZ L at' ∧ nthZ L at' ≤ 9223372036854775807 := by
      refine T.wf _ ?_
      unfold nthZ; rw [List.getD_eq_getElem?_getD, List.getElem?_eq_getElem hlt]; exact List.getElem_mem hlt
    have hadd : IntKind.i64.wrap ((at' : Int) + 1) = ((at' + 1 : Nat) : Int) := by rw [IntKind.wrap_i64]; omega
    have WN := Lib.hid (fun z => Within_calls (nthZ L at') 0 1073741824 z (by omega) (by omega) (by omega) hvw)
    have hwr := within_range (n := nthZ L at') (lo := 0) (hi := 1073741824) (by omega)
    generalize nthZ L at' = v at hcc hvw WN hwr
    generalize within v 0 1073741824 = y at WN hwr
    obtain ⟨r, hr⟩ : ∃ r : Nat, r = y.toNat % n := ⟨_, rfl⟩
    have hrn : r < n := by rw [hr]; exact Nat.mod_lt _ (by omega)
    have hmod : y.tmod (n : Int) = (r : Int) := by
      rw [hr, Int.tmod_eq_emod_of_nonneg hwr.1]; push_cast; rw [Int.toNat_of_nonneg hwr.1]
    have hn0 : ((n : Int) == 0) = false := by rw [beq_eq_false_iff_ne]; omega
    have hnw : IntKind.i64.wrap (r : Int) = (r : Int) := wrapi64 (by omega) (by omega)
    have hcn : decide ((L.length : Int) ≤ (L.length : Int)) = true := by simp
    clear hr hwr hc
    subst hA
    have b1 : decide ((0 : Int) ≤ (at' : Int)) = true := decide_eq_true (by omega)
    have b2 : decide ((at' : Int) < (L.length : Int)) = true := decide_eq_true (by omega)
    have TL := Lib.hid hlt
    obtain ⟨N, hN⟩ : ∃ N, N = L.length := ⟨_, rfl⟩
    rw [← hN] at c0 n0 d2 b2 hcn hsm hle hlt
    have HN := Lib.hid hN
    clear hN T
    go_enter Tryz.func27, Tryz.ntmps27
    go_wp2_with (fail)
    go_quiet (fail)
    go_wp2_with (fail)
    generalize hW : World.setCell (World.drewN w _) _ _ = W
    have T2 : Hid (TapeAt tb (some ⟨b, o, none⟩) L c (at' + 1) W) := Lib.hid ⟨by
        rw [← hW, heap_setCell_eq (show (World.drewN w _).heap[tb]? = _ from TT.out.cell)]; rfl, by rw [← hW]; exact ints_keepS TT.out.ints ((Upd.drewN _ (Upd.refl [tb] w)).setCell (p := ⟨tb, 1, none⟩) (by simp) _) (fun b2 o2 s2 hA hm => by have := TT.out.lt b2 o2 s2 hA; simp at hm; omega), TT.out.lt, TL.out, TT.out.small, TT.out.wf⟩
    have U2 : Hid (Upd [tb] w W) := Lib.hid (by rw [← hW]; exact (Upd.drewN _ (Upd.refl [tb] w)).setCell (p := ⟨tb, 1, none⟩) (by simp) _)
    clear hW n0 n1 c0 c1 f1
    have n0 : ∀ x : Near [] W, x.1.cell? ⟨tb, 0, none⟩ = some (.slice (some ⟨b, o, none⟩) N c) := fun x => by rw [cells_of (x.2.keep T2.out.cell (by simp)), HN.out]; rfl
    have n1 : ∀ x : Near [] W, x.1.cell? ⟨tb, 1, none⟩ = some (.int .i64 ((at' : Int) + 1)) := fun x => by rw [cells_of (x.2.keep T2.out.cell (by simp))]; rfl
    have n2 : ∀ x : Near [] W, x.1.cell? ⟨b, o + at', none⟩ = some (.int .i64 v) := fun x => by
      rw [← hcc]; exact (World.cell?_of_block (w := W) (x.2.block b (Nat.lt_of_lt_of_le hb U2.out.size) (by simp))).trans (World.cell?_of_block (w := w) (U2.out.block b hb (by simp; omega)))
    refine wp_region_plan (fun z => ∃ x : Near [] W, z = x.1) [([0, 1, 2, 3, 4, 5, 6, 7, 8, 9, 10, 12], 11)] [13, 14] (by kernel_rfl) (by kernel_rfl) (by kernel_rfl) (by kernel_rfl) (fun _ d _ _ _ h => by cases d <;> exact h) ⟨⟨(W).drew, (Upd.refl _ _).drew⟩, rfl⟩ ?_
    refine plan_next ?_
    simp only [opsAt, List.map_cons, List.map_nil, List.getElem?_toArray, List.getElem?_cons_zero, List.getElem?_cons_succ, Option.getD_some]
    repeat (go_big_quiet_step (fail))
    refine wpQuiet_nil ?_
    refine plan_one rfl ?_
    go_wp2_with fail
    refine (WN.out _).mono ?_
    rintro e z1 ⟨rfl, rfl⟩
    go_wp2_with fail
    refine plan_same ⟨⟨_, (Upd.refl _ _).drew⟩, rfl⟩ ?_
    refine plan_last ?_
    simp only [opsAt, List.map_cons, List.map_nil, List.getElem?_toArray, List.getElem?_cons_zero, List.getElem?_cons_succ, Option.getD_some]
    repeat (go_big_quiet_step (fail))
    refine wpQuiet_nil ?_
    unfold planEnd
    go_wp2_with fail
    go_ret
    exact ⟨r, at' + 1, hrn, rfl, T2.out.upd ((Upd.refl [] _).drew) (fun g hg => by simp at hg), U2.out.drew⟩
  · have d2 : decide ((L.length : Int) ≤ (at' : Int)) = true := decide_eq_true (by omega)
    obtain ⟨N, hN⟩ : ∃ N, N = L.length := ⟨_, rfl⟩
    rw [← hN] at c0 n0 d2 hsm hle hge
    clear hN T
    go_enter Tryz.func27, Tryz.ntmps27
    go_wp2_with (fail)
    go_quiet (fail)
    go_wp2_with (fail)
    go_ret
    exact ⟨0, at', h1, rfl, TT.out.upd (Upd.drewN _ (Upd.refl [] _)) (fun g hg => by simp at hg), Upd.drewN _ (Upd.refl _ _)⟩

def setL (rd n : Nat) : List Nat := [wordP 1 rd 0 0 (s32 (u32 ((n : Int) - sx n 12) / 4096 * 4096)), wordP 19 rd rd 0 (sx n 12)]
theorem setL_lt (rd n : Nat) (hd : rd < 32) : ∀ x ∈ setL rd n, x < 2 ^ 32 := by
  intro x hx
  simp only [setL, List.mem_cons, List.not_mem_nil, or_false] at hx
  rcases hx with rfl | rfl
  · exact wordP_lt _ _ _ _ _ (by decide) (by decide) hd (by decide) (by decide)
  · exact wordP_lt _ _ _ _ _ (by decide) (by decide) hd hd (by decide)
theorem Set_calls (rd n : Nat) (w : World) (hd : rd < 32) (hn : n < 2 ^ 32) :
    Calls Tryz.prog 31 #[.int .i64 (rd : Int), .int .u32 (n : Int)] w fun e w' => ∃ A c, e = .returned (.slice A 2 c) ∧ Ow w.heap.size w' (.slice A 2 c) (setL rd n) ∧ Upd [] w w' := by
  have e1 := sx12 n
  have hs := sx_lo n 12 (by decide) (by decide)
  have W1 := Lib.hid (fun z => word_calls 1 rd 0 0 (s32 (u32 ((n : Int) - sx n 12) / 4096 * 4096)) z (by decide) (by decide) hd (by decide) (by decide))
  have W2 := Lib.hid (fun z => word_calls 19 rd rd 0 (sx n 12) z (by decide) (by decide) hd hd (by decide))
  have HL : Hid (setL rd n = [wordP 1 rd 0 0 (s32 (u32 ((n : Int) - sx n 12) / 4096 * 4096)), wordP 19 rd rd 0 (sx n 12)]) := Lib.hid rfl
  generalize wordP 1 rd 0 0 (s32 (u32 ((n : Int) - sx n 12) / 4096 * 4096)) = x1 at *
  generalize wordP 19 rd rd 0 (sx n 12) = x2 at *
  have e3 : IntKind.u32.wrap ((n : Int) - ((u32 (sx n 12) : Nat) : Int)) = ((u32 ((n : Int) - sx n 12) : Nat) : Int) := by
    rw [wrap_u32]; unfold u32; omega
  have e2 := wrap_u32 (sx n 12)
  have h4 := u32_lt ((n : Int) - sx n 12)
  have e4 := high12 (u32 ((n : Int) - sx n 12)) h4
  have e5 := wrap_s32 (u32 ((n : Int) - sx n 12) / 4096 * 4096) (Nat.lt_of_le_of_lt (Nat.div_mul_le_self _ _) h4)
  generalize s32 (u32 ((n : Int) - sx n 12) / 4096 * 4096) = I1 at *
  generalize u32 ((n : Int) - sx n 12) / 4096 * 4096 = n4 at *
  generalize u32 ((n : Int) - sx n 12) = n3 at *
  generalize u32 (sx n 12) = n2 at *
  generalize sx n 12 = I2 at *
  clear hs h4
  go_enter Tryz.func31, Tryz.ntmps31
  go_wp2_with (fail)
  refine (W1.out _).mono ?_
  rintro e w1 ⟨rfl, u1⟩
  go_wp2_with (fail)
  refine (W2.out _).mono ?_
  rintro e w2 ⟨rfl, u2⟩
  go_wp2_with (fail)
  go_ret
  refine ⟨some ⟨w2.heap.size, 0, none⟩, 2, rfl, ?_, (u1.trans u2).alloc _⟩
  rw [HL.out]
  exact Ow.lit w2 [x1, x2] w.heap.size (u1.trans u2).size (show 2 ≤ 5000 by decide)

def outL (rs : Nat) : List Nat := setL 31 268435456 ++ [wordP 18 0 31 rs 0]
def stopL (rs : Nat) : List Nat := setL 31 268435460 ++ [wordP 18 0 31 rs 0]
theorem outL_lt (rs : Nat) (hd : rs < 32) : ∀ x ∈ outL rs, x < 2 ^ 32 := by
  intro x hx
  simp only [outL, List.mem_append, List.mem_cons, List.not_mem_nil, or_false] at hx
  rcases hx with h | rfl
  · exact setL_lt _ _ (by decide) x h
  · exact wordP_lt _ _ _ _ _ (by decide) (by decide) (by decide) (by decide) hd
theorem stopL_lt (rs : Nat) (hd : rs < 32) : ∀ x ∈ stopL rs, x < 2 ^ 32 := by
  intro x hx
  simp only [stopL, List.mem_append, List.mem_cons, List.not_mem_nil, or_false] at hx
  rcases hx with h | rfl
  · exact setL_lt _ _ (by decide) x h
  · exact wordP_lt _ _ _ _ _ (by decide) (by decide) (by decide) (by decide) hd
theorem Out_calls (rs : Nat) (w : World) (hd : rs < 32) :
    Calls Tryz.prog 63 #[.int .i64 (rs : Int)] w fun e w' => ∃ A c, e = .returned (.slice A 3 c) ∧ Ow w.heap.size w' (.slice A 3 c) (outL rs) ∧ Upd [] w w' := by
  unfold outL
  have W1 := Lib.hid (fun z => word_calls 18 0 31 rs 0 z (by decide) (by decide) (by decide) (by decide) hd)
  generalize wordP 18 0 31 rs 0 = x1 at *
  go_enter Tryz.func63, Tryz.ntmps63
  go_wp2_with (fail)
  refine (Set_calls 31 268435456 _ (by decide) (by decide)).mono ?_
  rintro e w1 ⟨A, c, rfl, O1, u1⟩
  go_wp2_with (fail)
  refine (W1.out _).mono ?_
  rintro e w2 ⟨rfl, u2⟩
  have O2 := Lib.hid ((O1.upd u2 (fun g hg => by simp at hg)).upd ((Upd.refl [] w2).alloc (.cells (nums .u32 [x1]) 36)) (fun g hg => by simp at hg))
  have U2 := Lib.hid ((u1.trans u2).alloc (.cells (nums .u32 [x1]) 36))
  clear O1
  go_wp2_with (at_builtin; refine L_app (.tmp 3) (.tmp 6) rfl (by kernel_rfl) w.heap.size _ _ rfl O2.out _ _ _ [x1] rfl rfl (numsAt_new w2 .u32 [x1] 36) (by simp [setL]) U2.out.size ?_)
  intro v' w3 O3 u3
  have u4 := U2.out.then u3 (fun g hg hlt => by have := O2.out.lt g hg; omega)
  obtain ⟨A2, c2, rfl, hc1, hc2, hn, hb⟩ := O3.words
  go_wp2_with (fail)
  go_ret
  exact ⟨A2, c2, rfl, O3, u4⟩
theorem Stop_calls (rs : Nat) (w : World) (hd : rs < 32) :
    Calls Tryz.prog 62 #[.int .i64 (rs : Int)] w fun e w' => ∃ A c, e = .returned (.slice A 3 c) ∧ Ow w.heap.size w' (.slice A 3 c) (stopL rs) ∧ Upd [] w w' := by
  unfold stopL
  have W1 := Lib.hid (fun z => word_calls 18 0 31 rs 0 z (by decide) (by decide) (by decide) (by decide) hd)
  generalize wordP 18 0 31 rs 0 = x1 at *
  go_enter Tryz.func62, Tryz.ntmps62
  go_wp2_with (fail)
  refine (Set_calls 31 268435460 _ (by decide) (by decide)).mono ?_
  rintro e w1 ⟨A, c, rfl, O1, u1⟩
  go_wp2_with (fail)
  refine (W1.out _).mono ?_
  rintro e w2 ⟨rfl, u2⟩
  have O2 := Lib.hid ((O1.upd u2 (fun g hg => by simp at hg)).upd ((Upd.refl [] w2).alloc (.cells (nums .u32 [x1]) 36)) (fun g hg => by simp at hg))
  have U2 := Lib.hid ((u1.trans u2).alloc (.cells (nums .u32 [x1]) 36))
  clear O1
  go_wp2_with (at_builtin; refine L_app (.tmp 3) (.tmp 6) rfl (by kernel_rfl) w.heap.size _ _ rfl O2.out _ _ _ [x1] rfl rfl (numsAt_new w2 .u32 [x1] 36) (by simp [setL]) U2.out.size ?_)
  intro v' w3 O3 u3
  have u4 := U2.out.then u3 (fun g hg hlt => by have := O2.out.lt g hg; omega)
  obtain ⟨A2, c2, rfl, hc1, hc2, hn, hb⟩ := O3.words
  go_wp2_with (fail)
  go_ret
  exact ⟨A2, c2, rfl, O3, u4⟩
end Go.Proofs.YtmdjhahafjlebaaGreatDoor
