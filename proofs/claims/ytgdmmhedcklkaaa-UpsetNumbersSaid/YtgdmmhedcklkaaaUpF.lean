/- slices.SortFunc at upsets. -/
import Derived.Test.YtgdmmhedcklkaaaUpS
import Derived.Test.YtgdmmhedcklkaaaUpL
namespace Go.Proofs.Ytgdmmhedcklkaaa
open Go.RowKit Go.Dio Go.Sort Go.Shelf Go.Lib
set_option linter.unusedSimpArgs false
set_option linter.unusedVariables false

theorem cmpI_lt (a b : Int) : cmpI a b < 0 ↔ a < b := by unfold cmpI; split <;> (try split) <;> omega
theorem cmpI_zero (a b : Int) : cmpI a b = 0 ↔ a = b := by unfold cmpI; split <;> (try split) <;> omega
theorem ltOf_cmpU (x y : UpV) : ltOf cmpU x y = ltU x y := by
  unfold ltOf cmpU ltU
  by_cases h : cmpI x.1 y.1 = 0
  · rw [if_pos h]
    have h' := (cmpI_zero _ _).1 h
    have hn : ¬ x.1 < y.1 := by omega
    by_cases k : x.2 < y.2
    · simp [(cmpI_lt x.2 y.2).2 k, h', k]
    · have := mt (cmpI_lt x.2 y.2).1 k
      simp [this, h', k]
  · rw [if_neg h]
    have h' : x.1 ≠ y.1 := mt (cmpI_zero _ _).2 h
    by_cases k : x.1 < y.1
    · simp [(cmpI_lt x.1 y.1).2 k, k]
    · have := mt (cmpI_lt x.1 y.1).1 k
      simp [this, k, h']
theorem swoU : Go.Sort.SWO (ltOf cmpU) where
  irrefl x := by rw [ltOf_cmpU, ltU_not]; omega
  trans x y z h1 h2 := by rw [ltOf_cmpU, ltU_iff] at *; omega
  ntrans x y z h1 h2 := by rw [ltOf_cmpU, ltU_not] at *; omega
theorem upd_sortWorld (w : World) (g m : Nat) (d : Array UpV) (os : Array Obj) : Upd [g] w (sortWorldK encU 2 w g 0 m d os) := by
  refine ⟨rfl, rfl, rfl, ?_, fun k hk hn => ?_⟩
  · exact size_sortWorldK_c encU 2 w g 0 m d os
  · have hne : g ≠ k := fun h => hn (by simp [h])
    show ((putRowK encU 2 (Sort.ahead w m) g 0 d).heap ++ os)[k]? = w.heap[k]?
    have hs : k < (putRowK encU 2 (Sort.ahead w m) g 0 d).heap.size := by rw [size_putRowK]; exact hk
    rw [Array.getElem?_append_left hs]
    show ((w.heap.modify g _)[k]?) = _
    rw [Array.getElem?_modify, if_neg hne]
set_option maxHeartbeats 2000000 in
theorem SortFunc_calls (g cap : Nat) (cur : Array Value) (l : List UpV) (w : World) (hg : w.heap[g]? = some (.cells cur 37 (0, 0))) (h : UpsAt w (some ⟨g, 0, none⟩) l) (hl : l.length ≤ 1048576) :
    Calls Try.prog 25 #[.slice (some ⟨g, 0, none⟩) l.length cap, .func (.func 26) #[] #[]] w fun e w' => e = .returned (.tuple #[]) ∧ Upd [g] w w' ∧ UpsAt w' (some ⟨g, 0, none⟩) (srt l) := by
  have eg : ∀ args w, (callFunc 26 args).run Try.prog w = .ok (.enter 26 args) w := enters_of Try.func26 (by kernel_rfl) rfl
  have hH : HoldsK encU 2 w g 0 l.toArray := fun j hj => by
    rw [size_flatK] at hj
    have hj2 : j / 2 < l.length := by simp at hj; omega
    obtain ⟨b, o, hA, hb, hc⟩ := h (by omega)
    cases hA
    obtain ⟨c1, c2⟩ := hc (j / 2) hj2
    refine ⟨?_, free_of hg _⟩
    rw [get_flatK encU 2 l.toArray j hj]
    have e : l.toArray[j / 2]! = l[j / 2] := by simp [hj2]
    rw [e]
    rcases Nat.mod_two_eq_zero_or_one j with q | q
    · rw [q, show 0 + j = 0 + j / 2 * 2 by omega, c1]; rfl
    · rw [q, show 0 + j = 0 + j / 2 * 2 + 1 by omega, c2]; rfl
  have hcmp : CmpLays Try.prog 26 #[] encU 2 cmpU g 0 l.toArray.size w := fun m os dk _ x y => closure_calls x y _
  have hcon := AnyQ.slices_SortFunc Try.sortIv 2 Try.isAgg37 Try.sizeOf37 encU (fun _ => rfl) (fun x v hv => by simp [encU] at hv; rcases hv with rfl | rfl <;> rfl) cmpU swoU 26 #[] g 0 cap l.toArray w eg hcmp hH (lt_of_block hg) (by simp; omega)
  refine Calls.mono (show Calls Try.prog 25 #[.slice (some ⟨g, 0, none⟩) l.length cap, .func (.func 26) #[] #[]] w _ from hcon) ?_
  rintro e w' ⟨rfl, d', n, os, hp, hs, rfl⟩
  refine ⟨rfl, upd_sortWorld w g n d' os, fun h0 => ?_⟩
  have hsz : d'.size = l.length := by rw [hp.1]; simp
  have hH' : HoldsK encU 2 (sortWorldK encU 2 w g 0 n d' os) g 0 d' := holdsK_sortWorldK_c encU 2 w g 0 l.toArray d' n os hH (lt_of_block hg) (by rw [hp.1])
  have hd : d'.toList = srt l := by
    refine srt_unique ?_ ?_
    · unfold SortedU
      rw [List.pairwise_iff_getElem]
      intro i j hi hj hij
      have := hs i j (Nat.zero_le _) hij (by simpa [hp.1] using hj)
      rw [ltOf_cmpU] at this
      have a1 : d'[j]! = d'.toList[j] := by simp at hj; simp [hj]
      have a2 : d'[i]! = d'.toList[i] := by simp at hi; simp [hi]
      rw [a1, a2] at this
      exact this
    · have := hp.2.2
      have e1 : d'.extract 0 l.toArray.size = d' := by rw [← hp.1]; simp
      rw [e1] at this
      simpa using this
  rw [← hd] at h0 ⊢
  refine ⟨g, 0, rfl, Nat.lt_of_lt_of_le (lt_of_block hg) (size_sortWorldK_c encU 2 w g 0 n d' os), fun i hi => ?_⟩
  have hi2 : i < d'.size := by simpa using hi
  have k1 := (hH' (i * 2) (by rw [size_flatK]; omega)).1
  have k2 := (hH' (i * 2 + 1) (by rw [size_flatK]; omega)).1
  rw [get_flatK encU 2 d' _ (by omega)] at k1 k2
  have e : d'[i]! = d'.toList[i] := by simp [hi2]
  rw [show i * 2 / 2 = i by omega, show i * 2 % 2 = 0 by omega, e] at k1
  rw [show (i * 2 + 1) / 2 = i by omega, show (i * 2 + 1) % 2 = 1 by omega, e] at k2
  exact ⟨k1, by rw [Nat.add_assoc]; exact k2⟩
end Go.Proofs.Ytgdmmhedcklkaaa
