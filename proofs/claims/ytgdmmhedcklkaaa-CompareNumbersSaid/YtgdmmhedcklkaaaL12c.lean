/- Law 12: ComparePrefixes, the walk. -/
import Derived.Test.YtgdmmhedcklkaaaL12b
import Derived.Test.YtgdmmhedcklkaaaApp
import Derived.Test.YtgdmmhedcklkaaaPlan
namespace Go.Proofs.Ytgdmmhedcklkaaa
open Go.RowKit Go.Dio

theorem info_u32 : (Try.prog.info? 22).map (fun i => (i.zero, i.size, i.bytes)) = some (some (.int .u32 0), 1, 4) := by kernel_rfl

/-- A place in 0 .. L - 1 out of any number, as Go reckons it. -/
theorem place_ok (n L : Int) (hL : 0 < L) (hL2 : L ≤ 4611686018427387904) : 0 ≤ (n.tmod L + L).tmod L ∧ (n.tmod L + L).tmod L < L ∧ IntKind.i64.wrap (n.tmod L + L) = n.tmod L + L ∧ 0 ≤ n.tmod L + L := by
  have h1 : n.tmod L < L := Int.tmod_lt_of_pos n hL
  have h2 : -L < n.tmod L := by
    rcases (by omega : n < 0 ∨ 0 ≤ n) with hn | hn
    · have h4 := Int.tmod_lt_of_pos (-n) hL
      rw [Int.neg_tmod] at h4
      omega
    · have := Int.tmod_nonneg L hn
      omega
  have h3 : 0 ≤ n.tmod L + L := by omega
  refine ⟨Int.tmod_nonneg _ h3, Int.tmod_lt_of_pos _ hL, ?_, h3⟩
  exact IntWalk.i64_in _ (by omega)

end Go.Proofs.Ytgdmmhedcklkaaa
