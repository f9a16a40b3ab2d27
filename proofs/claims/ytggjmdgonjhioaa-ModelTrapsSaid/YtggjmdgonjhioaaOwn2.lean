/- A row of the call's own stays through what writes elsewhere. -/
import Derived.Test.YtggjmdgonjhioaaApp
namespace Go.Dio
open Go Go.RowKit
theorem own_upd {w w' : World} {base e size n : Nat} {v : Value} {xs : List Value} {S : List Nat} (h : w.ownsRow base e size v n xs) (u : Upd S w w') (hS : ∀ g, v.ownBlock = some g → g ∉ S) : w'.ownsRow base e size v n xs := by
  obtain ⟨h1, h2⟩ := h
  refine ⟨h1, ?_⟩
  rcases h2 with h2 | ⟨g, cap, cur, hv, hg, hh, r⟩
  · exact Or.inl h2
  · exact Or.inr ⟨g, cap, cur, hv, hg, by rw [u.block g (lt_of_block hh) (hS g (by rw [hv]; rfl))]; exact hh, r⟩


end Go.Dio
