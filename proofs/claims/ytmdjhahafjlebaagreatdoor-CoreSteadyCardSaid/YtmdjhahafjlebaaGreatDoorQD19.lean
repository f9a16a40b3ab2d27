/- A core (pure): what each of its functions does, whatever was turned in it. -/
import Derived.Test.YtmdjhahafjlebaaGreatDoorQD06
import Derived.Test.YtmdjhahafjlebaaGreatDoorQD03
import Derived.Test.YtmdjhahafjlebaaGreatDoorQD17
import Derived.Test.YtmdjhahafjlebaaGreatDoorQD18
import Derived.Test.YtmdjhahafjlebaaGreatDoorQD02
import Derived.Test.YtmdjhahafjlebaaGreatDoorQD05
namespace Go.Proofs.YtmdjhahafjlebaaGreatDoor
open Go.RowKit Go.Dio
set_option linter.unusedVariables false

/-- Registers (words, how many were mended, the next one to be scrubbed), PC and CSRs (likewise), latches. -/
structure CoS where
  fl : List Nat
  ff : Nat
  fa : Nat
  cl : List Nat
  cf : Nat
  ca : Nat
  ll : List Nat

def zR : RetV := ⟨0, 0, 0, false, 0, 0, 0⟩
def readsP (i : InstV) : Bool × Bool :=
  let two := decide (5 ≤ i.op ∧ i.op ≤ 10) || decide (16 ≤ i.op ∧ i.op ≤ 18) || decide (28 ≤ i.op ∧ i.op ≤ 45)
  (two || decide (i.op = 4) || decide (11 ≤ i.op ∧ i.op ≤ 15) || decide (19 ≤ i.op ∧ i.op ≤ 27) || decide (50 ≤ i.op ∧ i.op ≤ 52), two)
def slowP (i : InstV) : Nat := if 38 ≤ i.op ∧ i.op ≤ 41 then 1 else if 42 ≤ i.op ∧ i.op ≤ 45 then 2 else 0
/-- Is a word loaded? -/
def ldB (D : InstV) (a : Nat) : Bool := decide (11 ≤ D.op ∧ D.op ≤ 15) && !(accessP D.op (u32 ((a : Int) + D.imm))).2
def ldA (D : InstV) (a : Nat) : Nat := low2 (u32 ((a : Int) + D.imm))

namespace CoS
/-- Sick. -/
def mark (s : CoS) : CoS := { s with ll := s.ll.set 3 (pput 1) }
def right (s : CoS) : Bool := rightL s.ll 0 4 && decide (pget (nth s.ll 0) ≤ 1) && decide (pget (nth s.ll 1) ≤ 40) && decide (pget (nth s.ll 3) = 0)
def scr (s : CoS) : CoS := { s with fl := getL s.fl (s.fa : Int), ff := s.ff + getF s.fl (s.fa : Int), fa := (s.fa + 1) % s.fl.length, cl := getL s.cl (s.ca : Int), cf := s.cf + getF s.cl (s.ca : Int), ca := (s.ca + 1) % 6 }
def scrOk (s : CoS) : Bool := decide ((peekL s.fl (s.fa : Int)).2 ≠ 2) && decide ((peekL s.cl (s.ca : Int)).2 ≠ 2)
end CoS
/-- So many words are read, up to the first one that is bad. -/
def seenR (l : List Nat) (f : Nat) : Nat → List Nat × Nat × Bool
  | 0 => (l, f, true)
  | i + 1 => if (seenR l f i).2.2 = true then (if (dec (nth (seenR l f i).1 i)).2 = 2 then ((seenR l f i).1, (seenR l f i).2.1, false) else (getL (seenR l f i).1 (i : Int), (seenR l f i).2.1 + getF (seenR l f i).1 (i : Int), true)) else seenR l f i
namespace CoS
def seenS (s : CoS) : CoS := { s with cl := (seenR s.cl s.cf 6).1, cf := (seenR s.cl s.cf 6).2.1 }
def seenOk (s : CoS) : Bool := (seenR s.cl s.cf 6).2.2
def pc (s : CoS) : Nat := (dec (nth s.cl 0)).1
def csrs (s : CoS) : List Nat := [(dec (nth s.cl 1)).1, (dec (nth s.cl 2)).1, (dec (nth s.cl 3)).1, (dec (nth s.cl 4)).1, (dec (nth s.cl 5)).1]
/-- What was made is written. -/
def fin (s : CoS) (x : MadeV) : CoS := { s with fl := wrL s.fl x.r.rd x.r.val.toNat, cl := (x.next :: x.csrs).map enc, ll := [0, 0, 0, 0] }
def reset (s : CoS) (pc : Nat) (regs csrs : List Nat) : CoS := { s with fl := regs.tail.map enc, cl := (pc :: csrs).map enc, ll := [0, 0, 0, 0] }
/-- A register is read. -/
def rd (s : CoS) (one : Bool) (i : Nat) : CoS := if one = true then { s with fl := rdL s.fl (i : Int), ff := s.ff + rdF s.fl (i : Int) } else s
def rdN (s : CoS) (one : Bool) (i : Nat) : Nat × Nat := if one = true then rdV s.fl (i : Int) else (0, 0)
end CoS

section
variable {σ : Type} (ld : σ → Nat → (Nat × Bool) × σ)
def coSick (s : CoS) (m : σ) : RetV × Nat × CoS × σ := (zR, 2, s.mark, m)
def coEnd (s : CoS) (x : MadeV) (m : σ) : RetV × Nat × CoS × σ := (x.r, 1, s.fin x, m)
def coLoad (s : CoS) (m : σ) : RetV × Nat × CoS × σ :=
  if (ld m s.pc).1.2 = false then coSick s.seenS (ld m s.pc).2
  else (zR, 0, { s.seenS with ll := ((s.ll.set 2 (pput (ld m s.pc).1.1)).set 1 (pput (nth [0, 8, 34] (slowP (decodeP (ld m s.pc).1.1))))).set 0 (pput 1) }, (ld m s.pc).2)
def coFetch (s : CoS) (m : σ) : RetV × Nat × CoS × σ :=
  if s.seenOk = false then coSick s.seenS m
  else if (fetchP s.pc).2 = true then coEnd s.seenS (trapP s.pc s.csrs (fetchP s.pc).1 s.pc) m
  else coLoad ld s m
/-- With the operands. -/
def coGo (s : CoS) (pc w a b : Nat) (cs : List Nat) (m : σ) : RetV × Nat × CoS × σ :=
  if ldB (decodeP w) a = true then
    (if (ld m (ldA (decodeP w) a)).1.2 = false then coSick s (ld m (ldA (decodeP w) a)).2
     else coEnd s (doP pc w a b cs (ld m (ldA (decodeP w) a)).1.1) (ld m (ldA (decodeP w) a)).2)
  else coEnd s (doP pc w a b cs 0) m
def coArgs (s : CoS) (pc w : Nat) (cs : List Nat) (i : InstV) (m : σ) : RetV × Nat × CoS × σ :=
  let s1 := s.rd (readsP i).1 i.r1
  let s2 := s1.rd (readsP i).2 i.r2
  if (s.rdN (readsP i).1 i.r1).2 = 2 ∨ (s1.rdN (readsP i).2 i.r2).2 = 2 then coSick s2 m
  else coGo ld s2 pc w (s.rdN (readsP i).1 i.r1).1 (s1.rdN (readsP i).2 i.r2).1 cs m
def coDo (s : CoS) (m : σ) : RetV × Nat × CoS × σ :=
  if s.seenOk = false then coSick s.seenS m
  else coArgs ld s.seenS s.pc (pget (nth s.ll 2)) s.csrs (decodeP (pget (nth s.ll 2))) m
def coCycle (s : CoS) (m : σ) : RetV × Nat × CoS × σ :=
  if s.right = false then coSick s m
  else if s.scrOk = false then coSick s.scr m
  else if pget (nth s.ll 0) = 0 then coFetch ld s.scr m
  else if 0 < pget (nth s.ll 1) then (zR, 0, { s.scr with ll := s.ll.set 1 (pput (pget (nth s.ll 1) - 1)) }, m)
  else coDo ld s.scr m
end
end Go.Proofs.YtmdjhahafjlebaaGreatDoor

namespace Go.Proofs.YtmdjhahafjlebaaGreatDoor
open Go.RowKit Go.Dio
set_option linter.unusedSimpArgs false
set_option linter.unusedVariables false

/-- A core's blocks. -/
structure CoB where
  cb : Nat
  fb : Nat
  b : Nat
  d : Nat
  rb : Nat
  rd : Nat
  lb : Nat
  ld : Nat
def CoB.fp (k : CoB) : List Nat := [k.cb, k.fb, k.b, k.d, k.rb, k.rd, k.lb, k.ld]
/-- Places are where they may be. -/
structure CoS.Ok (s : CoS) : Prop where
  fl : s.fl.length = 31
  cl : s.cl.length = 6
  ll : s.ll.length = 4
  fa : s.fa < 31
  ca : s.ca < 6
structure CoreAt (k : CoB) (s : CoS) (w : World) : Prop where
  cell : w.heap[k.cb]? = some (.cells #[.pointer (some ⟨k.fb, 0, none⟩), .pointer (some ⟨k.rb, 0, none⟩), .int .i64 (s.ca : Int), .pointer (some ⟨k.lb, 0, none⟩)] 79 (0, 0))
  file : FileAt k.fb k.b k.d s.fl s.ff s.fa w
  row : RowAt 108 k.rb k.rd s.cl s.cf w
  lat : LatAt k.lb k.ld s.ll w
  nd : k.fp.Nodup
  tab : ∀ x ∈ k.fp, x ≠ 0
  ok : s.Ok

theorem CoreAt.tz {k : CoB} {s : CoS} {w : World} (h : CoreAt k s w) : Tz w := h.row.tz
theorem CoreAt.lt {k : CoB} {s : CoS} {w : World} (h : CoreAt k s w) : ∀ x ∈ k.fp, x < w.heap.size := fun x hx => by
  simp only [CoB.fp, List.mem_cons, List.not_mem_nil, or_false] at hx
  rcases hx with rfl | rfl | rfl | rfl | rfl | rfl | rfl | rfl
  · exact lt_of_block h.cell
  · exact lt_of_block h.file.cell
  · exact h.file.row.blt
  · exact h.file.row.dlt
  · exact h.row.blt
  · exact h.row.dlt
  · exact h.lat.blt
  · exact h.lat.dlt
theorem CoreAt.upd {k : CoB} {s : CoS} {S : List Nat} {w w' : World} (h : CoreAt k s w) (u : Upd S w w') (hS : ∀ x ∈ k.fp, x ∉ S) (hg : 0 ∉ S) : CoreAt k s w' :=
  ⟨u.keep h.cell (hS _ (by simp [CoB.fp])), h.file.upd u (hS _ (by simp [CoB.fp])) (hS _ (by simp [CoB.fp])) (hS _ (by simp [CoB.fp])) hg, h.row.upd u (hS _ (by simp [CoB.fp])) (hS _ (by simp [CoB.fp])) hg,
    h.lat.upd u (hS _ (by simp [CoB.fp])) (hS _ (by simp [CoB.fp])), h.nd, h.tab, h.ok⟩
theorem CoreAt.upd0 {k : CoB} {s : CoS} {w w' : World} (h : CoreAt k s w) (u : Upd [] w w') : CoreAt k s w' := h.upd u (by simp) (by simp)
theorem CoreAt.fresh {k : CoB} {s : CoS} {S : List Nat} {w w' : World} (h : CoreAt k s w) (u : Upd S w w') (hS : ∀ x ∈ S, w.heap.size ≤ x) : CoreAt k s w' :=
  h.upd u (fun x hx hm => by have := h.lt x hx; have := hS x hm; omega) (fun hm => by have := h.tz.lt; have := hS _ hm; omega)
theorem nd_inj {l : List Nat} (h : l.Nodup) {i j : Nat} {x : Nat} (hi : l[i]? = some x) (hj : l[j]? = some x) : i = j :=
  (List.getElem?_inj (List.getElem?_eq_some_iff.1 hi).1 h).1 (hi.trans hj.symm)
/-- A block beside those that were written. -/
theorem CoB.out {k : CoB} (nd : k.fp.Nodup) {S I : List Nat} (hS : ∀ x ∈ S, ∃ i ∈ I, k.fp[i]? = some x) {x : Nat} (j : Nat) (hx : k.fp[j]? = some x) (hj : j ∉ I) : x ∉ S := fun hm => by
  obtain ⟨i, hi, e⟩ := hS x hm
  have := nd_inj nd e hx
  subst this
  exact hj hi
theorem CoreAt.noTab {k : CoB} {s : CoS} {w : World} (h : CoreAt k s w) {S I : List Nat} (hS : ∀ x ∈ S, ∃ i ∈ I, k.fp[i]? = some x) : 0 ∉ S := fun hm => by
  obtain ⟨i, _, e⟩ := hS _ hm
  exact h.tab _ (List.mem_of_getElem? e) rfl
theorem CoreAt.mkFile {k : CoB} {s : CoS} {w w1 : World} (h : CoreAt k s w) {l : List Nat} {f a : Nat} (r : FileAt k.fb k.b k.d l f a w1) {S : List Nat} (u : Upd S w w1) (hS : ∀ x ∈ S, x = k.fb ∨ x = k.b ∨ x = k.d) (hl : l.length = 31) (ha : a < 31) : CoreAt k { s with fl := l, ff := f, fa := a } w1 := by
  have nd := h.nd
  have hS' : ∀ x ∈ S, ∃ i ∈ [1, 2, 3], k.fp[i]? = some x := fun x hx => by
    rcases hS x hx with rfl | rfl | rfl
    · exact ⟨1, by decide, rfl⟩
    · exact ⟨2, by decide, rfl⟩
    · exact ⟨3, by decide, rfl⟩
  have hg := h.noTab hS'
  exact ⟨u.keep h.cell (CoB.out nd hS' 0 rfl (by decide)), r, h.row.upd u (CoB.out nd hS' 4 rfl (by decide)) (CoB.out nd hS' 5 rfl (by decide)) hg,
    h.lat.upd u (CoB.out nd hS' 6 rfl (by decide)) (CoB.out nd hS' 7 rfl (by decide)), h.nd, h.tab, ⟨hl, h.ok.cl, h.ok.ll, ha, h.ok.ca⟩⟩
theorem CoreAt.mkRow {k : CoB} {s : CoS} {w w1 : World} (h : CoreAt k s w) {l : List Nat} {f : Nat} (r : RowAt 108 k.rb k.rd l f w1) {S : List Nat} (u : Upd S w w1) (hS : ∀ x ∈ S, x = k.rb ∨ x = k.rd) (hl : l.length = 6) : CoreAt k { s with cl := l, cf := f } w1 := by
  have nd := h.nd
  have hS' : ∀ x ∈ S, ∃ i ∈ [4, 5], k.fp[i]? = some x := fun x hx => by
    rcases hS x hx with rfl | rfl
    · exact ⟨4, by decide, rfl⟩
    · exact ⟨5, by decide, rfl⟩
  have hg := h.noTab hS'
  exact ⟨u.keep h.cell (CoB.out nd hS' 0 rfl (by decide)), h.file.upd u (CoB.out nd hS' 1 rfl (by decide)) (CoB.out nd hS' 2 rfl (by decide)) (CoB.out nd hS' 3 rfl (by decide)) hg, r,
    h.lat.upd u (CoB.out nd hS' 6 rfl (by decide)) (CoB.out nd hS' 7 rfl (by decide)), h.nd, h.tab, ⟨h.ok.fl, hl, h.ok.ll, h.ok.fa, h.ok.ca⟩⟩
theorem CoreAt.mkLat {k : CoB} {s : CoS} {w w1 : World} (h : CoreAt k s w) {l : List Nat} (r : LatAt k.lb k.ld l w1) {S : List Nat} (u : Upd S w w1) (hS : ∀ x ∈ S, x = k.lb ∨ x = k.ld) (hl : l.length = 4) : CoreAt k { s with ll := l } w1 := by
  have nd := h.nd
  have hS' : ∀ x ∈ S, ∃ i ∈ [6, 7], k.fp[i]? = some x := fun x hx => by
    rcases hS x hx with rfl | rfl
    · exact ⟨6, by decide, rfl⟩
    · exact ⟨7, by decide, rfl⟩
  have hg := h.noTab hS'
  exact ⟨u.keep h.cell (CoB.out nd hS' 0 rfl (by decide)), h.file.upd u (CoB.out nd hS' 1 rfl (by decide)) (CoB.out nd hS' 2 rfl (by decide)) (CoB.out nd hS' 3 rfl (by decide)) hg,
    h.row.upd u (CoB.out nd hS' 4 rfl (by decide)) (CoB.out nd hS' 5 rfl (by decide)) hg, r, h.nd, h.tab, ⟨h.ok.fl, h.ok.cl, hl, h.ok.fa, h.ok.ca⟩⟩
theorem CoreAt.mkAt {k : CoB} {s : CoS} {w : World} (h : CoreAt k s w) (n : Nat) (hn : n < 6) : CoreAt k { s with ca := n } (w.setCell ⟨k.cb, 2, none⟩ (.int .i64 (n : Int))) := by
  have nd := h.nd
  have u : Upd [k.cb] w (w.setCell ⟨k.cb, 2, none⟩ (.int .i64 (n : Int))) := (Upd.refl [k.cb] w).setCell (p := ⟨k.cb, 2, none⟩) (by simp) _
  have hS' : ∀ x ∈ [k.cb], ∃ i ∈ [0], k.fp[i]? = some x := fun x hx => by
    obtain rfl := List.mem_singleton.1 hx
    exact ⟨0, by decide, rfl⟩
  have hg := h.noTab hS'
  refine ⟨?_, h.file.upd u (CoB.out nd hS' 1 rfl (by decide)) (CoB.out nd hS' 2 rfl (by decide)) (CoB.out nd hS' 3 rfl (by decide)) hg, h.row.upd u (CoB.out nd hS' 4 rfl (by decide)) (CoB.out nd hS' 5 rfl (by decide)) hg,
    h.lat.upd u (CoB.out nd hS' 6 rfl (by decide)) (CoB.out nd hS' 7 rfl (by decide)), h.nd, h.tab, ⟨h.ok.fl, h.ok.cl, h.ok.ll, h.ok.fa, hn⟩⟩
  rw [heap_setCell_eq h.cell]; simp
/-- A core behind a call. -/
structure CoR (k : CoB) (s : CoS) (w w' : World) : Prop where
  core : CoreAt k s w'
  upd : Upd k.fp w w'
theorem CoR.trans {k : CoB} {s s' : CoS} {w w1 w2 : World} (h : CoR k s w w1) (h2 : CoR k s' w1 w2) : CoR k s' w w2 := ⟨h2.core, h.upd.trans h2.upd⟩
theorem CoR.refl {k : CoB} {s : CoS} {w : World} (h : CoreAt k s w) : CoR k s w w := ⟨h, Upd.refl _ _⟩

theorem RetV.one (r : RetV) : (r.cells.toArray.all fun x => x.oneCell') = true := by simp [RetV.cells, Value.oneCell']
theorem CoreAt.c0 {k : CoB} {s : CoS} {w : World} (h : CoreAt k s w) : w.cell? ⟨k.cb, 0, none⟩ = some (.pointer (some ⟨k.fb, 0, none⟩)) := by rw [cells_of h.cell]; rfl
theorem CoreAt.c1 {k : CoB} {s : CoS} {w : World} (h : CoreAt k s w) : w.cell? ⟨k.cb, 1, none⟩ = some (.pointer (some ⟨k.rb, 0, none⟩)) := by rw [cells_of h.cell]; rfl
theorem CoreAt.c2 {k : CoB} {s : CoS} {w : World} (h : CoreAt k s w) : w.cell? ⟨k.cb, 2, none⟩ = some (.int .i64 (s.ca : Int)) := by rw [cells_of h.cell]; rfl
theorem CoreAt.c3 {k : CoB} {s : CoS} {w : World} (h : CoreAt k s w) : w.cell? ⟨k.cb, 3, none⟩ = some (.pointer (some ⟨k.lb, 0, none⟩)) := by rw [cells_of h.cell]; rfl

set_option maxRecDepth 20000 in
set_option maxHeartbeats 1000000 in
theorem sick_calls (k : CoB) (s : CoS) (zz : World) (h : CoreAt k s zz) :
    Calls Tryz.prog 40 #[.pointer (some ⟨k.cb, 0, none⟩)] zz fun e z' => e = .returned (.tuple #[.agg zR.cells.toArray, .int .i64 2]) ∧ CoR k s.mark zz z' := by
  have H := Lib.hid h
  have HZ := Lib.hid h.lt
  have HT := Lib.hid h.tz.lt
  have hl := h.ok.ll
  clear h
  go_enter Tryz.func40, Tryz.ntmps40
  go_upto_region 1 with (fail)
  generalize hW : World.alloc zz _ = z0
  have R0 : Hid (z0.heap[zz.heap.size]? = some (.cells zR.cells.toArray 38 (0, 0))) := Lib.hid (by rw [← hW]; exact Go.heap_alloc_last zz _)
  have U0 : Hid (Upd [] zz z0) := Lib.hid (by rw [← hW]; exact (Upd.refl _ _).alloc _)
  clear hW
  have H0 := Lib.hid (H.out.upd0 U0.out)
  have c3 := H0.out.c3
  have P := Lib.hid (LPut_calls k.lb k.ld s.ll 3 1 _ H0.out.lat (by omega) (by decide))
  go_wp2_with (fail)
  refine P.out.mono ?_
  rintro e w1 ⟨rfl, r, u⟩
  clear c3 P
  have H1 := Lib.hid (H0.out.mkLat r u (by simp) (by simpa using hl))
  have R1 := Lib.hid (u.keep R0.out (fun hm => by have := HZ.out k.ld (by simp [CoB.fp]); simp at hm; omega))
  have U1 : Hid (Upd k.fp zz w1) := Lib.hid ((U0.out.mono (by simp)).trans (u.mono (fun x hx _ => by simp at hx; simp [CoB.fp, hx])))
  clear r u H0 R0 U0
  go_wp2_with (first
    | go_skip
    | ((with_reducible refine at_st 2 ?_); refine L_store_row 38 (.tmp 2) (.tmp 9) rfl (by kernel_rfl) zz.heap.size 0 rfl zR.cells 38 R1.out zR.cells.toArray rfl 7 info_ret rfl (by decide) (RetV.one _) ?_))
  intro wA bA uA zA
  rw [spl_all (by rfl)] at bA
  go_wp2_with (fail)
  refine bodyPost_ret (results_row_tmp rfl _ _ zz.heap.size 38 zR.cells.toArray _ _ _ rfl rfl bA Tryz.underlying38 rfl info_ret) rfl ⟨rfl, ?_⟩
  exact ⟨H1.out.upd uA (fun x hx hm => by have := HZ.out x hx; simp at hm; omega) (fun hm => by have := HT.out; simp at hm; omega), U1.out.then uA (fun x hx hlt => by simp at hx; omega)⟩
end Go.Proofs.YtmdjhahafjlebaaGreatDoor
