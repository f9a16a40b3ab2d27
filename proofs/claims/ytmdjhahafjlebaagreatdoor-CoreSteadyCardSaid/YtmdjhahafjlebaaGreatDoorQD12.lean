/- The frame that the laws share: an answer 'true' that leaves what was there; slices of whole numbers as they come in. -/
import Derived.Test.YtmdjhahafjlebaaGreatDoorRows
import Derived.Test.YtmdjhahafjlebaaGreatDoorQD00
import Derived.WalkKit
import Derived.ProofKit
import Derived.OpenShut
import Derived.OpenVars
import Derived.JoinedCond
import Derived.Carry
import Derived.ChangeOld
import Derived.ChangeSame
import Derived.JoinedOf
import Derived.JoinedAt
namespace Go.Proofs.YtmdjhahafjlebaaGreatDoor.fr
open Go.ChangeShapes Go.WideShapes Go.ChangeAt Go.RowKit Go.Dio

theorem own : ownKnob Tryz.prog.godebug = none := by kernel_rfl
theorem laidOut : laidOutB Tryz.prog = true := by kernel_rfl

theorem trodAll_below {H : Type} {enc : TypeId × Value → H} {P : Program} (hl : laidOutB P = true) {W W' : World} (hb : Below W.heap.size W W') :
    ∀ {ts : List TypeId} {vs : List Value} {ds : List (DataW H)} {ps : List MemPlace}, (ts.all fun t => P.readableRec t && decide (t < P.types.size)) = true →
      DataW.TrodAll enc P W 0 (fun _ => true) true ts vs ds ps → DataW.TrodAll enc P W' 0 (fun b => decide (b < W.heap.size)) true ts vs ds ps
  | [], [], [], _, _, h => h
  | [], [], _ :: _, _, _, h => h.elim
  | [], _ :: _, _, _, _, h => h.elim
  | _ :: _, [], _, _, _, h => h.elim
  | _ :: _, _ :: _, [], _, _, h => h.elim
  | t :: ts, v :: vs, d :: ds, _, ht, h => by
    simp only [List.all_cons, Bool.and_eq_true, decide_eq_true_eq] at ht
    obtain ⟨p, q, h1, h2, e⟩ := h
    have lt : ∀ x ∈ p, x.block < W.heap.size := by obtain ⟨m, hm⟩ := h1; exact DataW.trod_lt m _ _ _ hm
    exact ⟨p, q, Below.trod hl ht.1.1 ht.1.2 h1 hb lt, trodAll_below hl hb (by simpa using ht.2) h2, e⟩

theorem post_true {H : Type} {enc : TypeId × Value → H} {P : Program} {f : Func} {s : ChangeSpec} {W W' : World} {args : Array Value} {ds gs : List (DataW H)} {before : List MemPlace} (hl : laidOutB P = true)
    (hts : (f.params.toList.all fun t => P.readableRec t && decide (t < P.types.size)) = true) (hvs : varsRowed P s.vars = true)
    (hW : DataW.Whole enc P f.params.toList s.vars false W args.toList ds gs before) (hb : Below W.heap.size W W') (tb : TypeId) (hrt : f.resultTypes.toList = [tb]) (htb : P.underlying tb = some .bool)
    (hr : (s.fn H (ds ++ gs)).results = [.lit (.bool true)]) (ha : (s.fn H (ds ++ gs)).args = ds) (hv : (s.fn H (ds ++ gs)).vars = gs) :
    s.post enc P f false true false false W args (.bool true) W' := by
  have hW' := hW
  obtain ⟨p, q, hA, hV, rfl, hfz, hnd⟩ := hW
  have hsz : f.resultTypes.size = 1 := by rw [← Array.length_toList, hrt]; rfl
  refine ⟨ds, gs, p ++ q, [], p, q, hW', ?_, ?_, ?_, hb.frame _, fun h => by cases h⟩
  · rw [hr, hrt, hsz]
    exact trodAll_mk1 (shut_bool htb _)
  · rw [ha]
    exact trodAll_below hl hb hts hA
  · rw [hv]
    exact Below.trodVars hl hb hvs hV

theorem cell_lt {w : World} {a : Addr} {v : Value} (h : w.cell? a = some v) : a.block < w.heap.size := by
  rcases Nat.lt_or_ge a.block w.heap.size with h0 | h0
  · exact h0
  · have e : w.heap[a.block]? = none := by simp [h0]
    simp [World.cell?, e] at h

/-- A slice of whole numbers that came in: nil, or a row that reads as a list. -/
theorem open_nums {H : Type} {enc : TypeId × Value → H} {P : Program} {t e : TypeId} {k : IntKind} (hk : k.signed = false) {W : World} {a : Option Addr} {len cap : Nat} {d : DataW H} {ps : List MemPlace} (ht : P.underlying t = some (.slice e)) (he : P.underlying e = some (.int k)) (hc : P.cellsOf e = 1)
    (h : DataW.Trod enc P W 0 (fun _ => true) true t (.slice a len cap) d ps) :
    ∃ l : List Nat, NumsAt W k a l ∧ l.length = len ∧ len ≤ cap ∧ cap ≤ 9223372036854775807 ∧ (∀ x ∈ l, (Lit.int k (x : Int)).wf = true) ∧ len + 1 ≤ Rows.uptoBulk d := by
  obtain ⟨fuel, hf⟩ := h
  rcases open_ints ht he hc hf with ⟨hcs, hx⟩ | ⟨x, l, c, zs, hcs, _, hl, hm, hz, hx, hcell, hwz⟩
  · simp [Value.cells] at hcs
    obtain ⟨rfl, rfl, rfl⟩ := hcs
    obtain rfl : d = .nil := congrArg Prod.fst hx
    exact ⟨[], numsAt_nil _ _ _, rfl, by omega, by omega, by simp, by simp [Rows.uptoBulk]⟩
  · simp [Value.cells] at hcs
    obtain ⟨rfl, rfl, rfl⟩ := hcs
    obtain rfl : d = .slice (lits k (zs.take len)) (lits k (zs.drop len)) := congrArg Prod.fst hx
    have hz' : zs.length = cap := by simpa using hz
    have hnn : ∀ n ∈ zs, ((n.toNat : Nat) : Int) = n := fun n hn => by
      have h := hwz n hn
      have h0 : 0 ≤ n := by
        simp only [Lit.wf, IntKind.min, hk, Bool.and_eq_true, decide_eq_true_eq] at h
        simpa using h.1
      exact Int.toNat_of_nonneg h0
    refine ⟨(zs.take len).map Int.toNat, fun h0 => ?_, by simp; omega, hl, by simpa [maxLen] using hm, fun x hx => ?_, ?_⟩
    · simp only [List.length_map, List.length_take] at h0
      have hc0 := hcell 0 (by omega)
      obtain ⟨b, o, s⟩ := x
      have hspot : s = none := by simpa [Addr.add] using World.cell?_spot hc0
      subst hspot
      refine ⟨b, o, rfl, cell_lt hc0, fun i hi => ?_⟩
      simp only [List.length_map, List.length_take] at hi
      have := hcell i (by omega)
      have ea : (⟨b, o, none⟩ : Addr).add i = ⟨b, o + i, none⟩ := by
        simp only [Addr.add]
        split
        · next h0 => subst h0; rfl
        · rfl
      rw [ea] at this
      rw [this]
      have hi2 : i < zs.length := by omega
      have e1 : nth ((zs.take len).map Int.toNat) i = zs[i].toNat := by
        rw [nth_eq _ _ (by simp; omega)]; simp
      rw [e1, hnn _ (List.getElem_mem hi2)]
      simp [hi2]
    · simp only [List.mem_map] at hx
      obtain ⟨n, hn, rfl⟩ := hx
      rw [hnn n (List.mem_of_mem_take hn)]
      exact hwz n (List.mem_of_mem_take hn)
    · have h1 : ∀ l : List Int, Rows.uptoBulkAll (lits (H := H) k l) = l.length := by
        intro l
        induction l with
        | nil => simp [lits, Rows.uptoBulkAll]
        | cons x r ih => simp only [lits, List.map_cons, Rows.uptoBulkAll, Rows.uptoBulk, List.length_cons] at ih ⊢; omega
      simp only [Rows.uptoBulk, h1, List.length_take]
      omega

theorem bulk_cons {H : Type} {d : DataW H} {r : List (DataW H)} (h : Rows.uptoBulkAll (d :: r) ≤ 1048576) : Rows.uptoBulk d ≤ 1048576 ∧ Rows.uptoBulkAll r ≤ 1048576 := by
  simp only [Rows.uptoBulkAll] at h
  omega
end Go.Proofs.YtmdjhahafjlebaaGreatDoor.fr

namespace Go.Dio
def nthZ (l : List Int) (i : Nat) : Int := l.getD i 0
/-- A slice of int reads as a list. -/
def IntsAt (w : World) (A : Option Addr) (l : List Int) : Prop :=
  0 < l.length → ∃ b o, A = some ⟨b, o, none⟩ ∧ b < w.heap.size ∧ ∀ i, i < l.length → w.cell? ⟨b, o + i, none⟩ = some (.int .i64 (nthZ l i))
theorem IntsAt.of_upd {w w' : World} {A : Option Addr} {l : List Int} (h : IntsAt w A l) (hu : Upd [] w w') : IntsAt w' A l := fun h0 => by
  obtain ⟨b, o, hA, hb, hc⟩ := h h0
  exact ⟨b, o, hA, Nat.lt_of_lt_of_le hb hu.size, fun i hi => by rw [← hc i hi]; exact World.cell?_of_block (w := w) (hu.block b hb (by simp))⟩
end Go.Dio
namespace Go.Proofs.YtmdjhahafjlebaaGreatDoor.fr
open Go.ChangeShapes Go.WideShapes Go.ChangeAt Go.RowKit Go.Dio
theorem small32 {l : List Nat} (h : ∀ x ∈ l, (Lit.int .u32 (x : Int)).wf = true) : ∀ x ∈ l, x < 2 ^ 32 := fun x hx => by
  have hx : 0 ≤ (x : Int) ∧ (x : Int) ≤ 4294967295 := by simpa [Lit.wf, IntKind.min, IntKind.max, IntKind.signed, IntKind.bits] using h x hx
  omega
/-- A slice of int that came in. -/
theorem open_ints' {H : Type} {enc : TypeId × Value → H} {P : Program} {t e : TypeId} {W : World} {a : Option Addr} {len cap : Nat} {d : DataW H} {ps : List MemPlace} (ht : P.underlying t = some (.slice e)) (he : P.underlying e = some (.int .i64)) (hc : P.cellsOf e = 1)
    (h : DataW.Trod enc P W 0 (fun _ => true) true t (.slice a len cap) d ps) :
    ∃ l : List Int, IntsAt W a l ∧ l.length = len ∧ len ≤ cap ∧ cap ≤ 9223372036854775807 ∧ (∀ x ∈ l, (Lit.int .i64 x).wf = true) ∧ len + 1 ≤ Rows.uptoBulk d := by
  obtain ⟨fuel, hf⟩ := h
  rcases open_ints ht he hc hf with ⟨hcs, hx⟩ | ⟨x, l, c, zs, hcs, _, hl, hm, hz, hx, hcell, hwz⟩
  · simp [Value.cells] at hcs
    obtain ⟨rfl, rfl, rfl⟩ := hcs
    obtain rfl : d = .nil := congrArg Prod.fst hx
    exact ⟨[], fun h => absurd h (by simp), rfl, by omega, by omega, by simp, by simp [Rows.uptoBulk]⟩
  · simp [Value.cells] at hcs
    obtain ⟨rfl, rfl, rfl⟩ := hcs
    obtain rfl : d = .slice (lits .i64 (zs.take len)) (lits .i64 (zs.drop len)) := congrArg Prod.fst hx
    have hz' : zs.length = cap := by simpa using hz
    refine ⟨zs.take len, fun h0 => ?_, by simp; omega, hl, by simpa [maxLen] using hm, fun x hx => hwz x (List.mem_of_mem_take hx), ?_⟩
    · simp only [List.length_take] at h0
      have hc0 := hcell 0 (by omega)
      obtain ⟨b, o, s⟩ := x
      have hspot : s = none := by simpa [Addr.add] using World.cell?_spot hc0
      subst hspot
      refine ⟨b, o, rfl, cell_lt hc0, fun i hi => ?_⟩
      simp only [List.length_take] at hi
      have := hcell i (by omega)
      have ea : (⟨b, o, none⟩ : Addr).add i = ⟨b, o + i, none⟩ := by
        simp only [Addr.add]
        split
        · next h0 => subst h0; rfl
        · rfl
      rw [ea] at this
      rw [this]
      have hi2 : i < zs.length := by omega
      have hi3 : i < len := by omega
      simp [nthZ, List.getD, hi2, hi3]
    · have h1 : ∀ l : List Int, Rows.uptoBulkAll (lits (H := H) .i64 l) = l.length := by
        intro l
        induction l with
        | nil => simp [lits, Rows.uptoBulkAll]
        | cons x r ih => simp only [lits, List.map_cons, Rows.uptoBulkAll, Rows.uptoBulk, List.length_cons] at ih ⊢; omega
      simp only [Rows.uptoBulk, h1, List.length_take]
      omega
end Go.Proofs.YtmdjhahafjlebaaGreatDoor.fr

namespace Go.Proofs.YtmdjhahafjlebaaGreatDoor
open Go.ChangeShapes Go.WideShapes Go.ChangeAt Go.RowKit Go.Dio
set_option linter.unusedVariables false
set_option linter.unusedSimpArgs false

theorem shape_ltw {w : World} {b : Nat} {r : TypeId × Nat} (h : w.shape? b = some r) : b < w.heap.size := by
  rcases Nat.lt_or_ge b w.heap.size with h0 | h0
  · exact h0
  · have e : w.heap[b]? = none := by rw [Array.getElem?_eq_none_iff]; exact h0
    simp [World.shape?, e] at h
theorem okWide_ltw {P : Program} {w : World} {r : Reach} {base len cap : Nat} {t e : TypeId} {A : Option Addr} (ht : P.underlying t = some (.slice e)) (h : Value.okWide P w r base t (.slice A len cap)) : ∀ b o s, A = some ⟨b, o, s⟩ → b < w.heap.size := fun b o s hA => by
  subst hA
  simp only [Value.okWide, ht, Cell.okWide, Cell.ok] at h
  obtain ⟨_, _, _, _, row, cells, hs, _⟩ := h
  exact shape_ltw hs
theorem wf_rangew {l : List Int} (h : ∀ x ∈ l, (Lit.int .i64 x).wf = true) : ∀ x ∈ l, -9223372036854775808 ≤ x ∧ x ≤ 9223372036854775807 := fun x hx => by
  simpa [Lit.wf, IntKind.min, IntKind.max, IntKind.signed, IntKind.bits] using h x hx
end Go.Proofs.YtmdjhahafjlebaaGreatDoor
