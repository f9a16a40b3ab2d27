/- Law 2: what is known; the same as the document's. -/
import Derived.Test.YtjnjpnnogdldaaaDoorRef
namespace Go.Proofs.YtjnjpnnogdldaaaDoor
open Go.RowKit Go.Dio

/-- The library's table is laid; what was there is as it was. -/
def In (w0 w : World) : Prop := Tz w ∧ Below w0.heap.size w0 w
theorem In.start {w : World} (h : Tz w) : In w w := ⟨h, Below.refl _ _⟩
theorem In.step {w0 w w' : World} (h : In w0 w) (hb : Below w.heap.size w w') : In w0 w' := ⟨h.1.of_below hb h.1.size, h.2.trans (hb.mono h.2.size)⟩

set_option maxHeartbeats 1000000 in
theorem known2_calls (w : World) (hT : Tz w) : Calls Tryd.prog 24 #[] w fun e w' => e = .returned (.bool true) ∧ Below w.heap.size w w' := by
  have H := Lib.hid (In.start hT)
  clear hT
  have D1 := Lib.hid fun w' (h : In w w') => Decode_calls 1 w' (by decide) h.1
  have e1 : dec 1 = (0, 1) := by decide +kernel
  have E0 := Lib.hid fun w' (h : In w w') => Encode_calls 0 w' (by decide) h.1
  have S3 := Lib.hid fun w' (h : In w w') => Syndrome_calls 3 w' (by decide) h.1
  have e3 : syn 3 = 12 := by decide +kernel
  have C0 := Lib.hid fun w' => Column_calls 0 w' (by decide)
  have C1 := Lib.hid fun w' => Column_calls 1 w' (by decide)
  have C32 := Lib.hid fun w' => Column_calls 32 w' (by decide)
  have C39 := Lib.hid fun w' => Column_out 39 w' (by decide)
  have k0 : col 0 = 7 := rfl
  have k1 : col 1 = 11 := rfl
  have k32 : col 32 = 1 := rfl
  rw [e1] at D1
  rw [enc_zero] at E0
  rw [e3] at S3
  rw [k0] at C0
  rw [k1] at C1
  rw [k32] at C32
  clear e1 e3 k0 k1 k32
  go_enter Tryd.func24, Tryd.ntmps24
  go_wp2_with (fail)
  refine (D1.out _ H.out).mono ?_
  rintro e w' ⟨rfl, hb⟩
  replace H := Lib.hid (H.out.step hb)
  clear hb
  go_wp2_with (fail)
  refine (C0.out _).mono ?_
  rintro e w' ⟨rfl, hb⟩
  replace H := Lib.hid (H.out.step hb)
  clear hb
  go_wp2_with (fail)
  refine (C39.out _).mono ?_
  rintro e w' ⟨rfl, hb⟩
  replace H := Lib.hid (H.out.step hb)
  clear hb
  go_wp2_with (fail)
  refine (C32.out _).mono ?_
  rintro e w' ⟨rfl, hb⟩
  replace H := Lib.hid (H.out.step hb)
  clear hb
  go_wp2_with (fail)
  refine (E0.out _ H.out).mono ?_
  rintro e w' ⟨rfl, hb⟩
  replace H := Lib.hid (H.out.step hb)
  clear hb
  go_wp2_with (fail)
  refine (S3.out _ H.out).mono ?_
  rintro e w' ⟨rfl, hb⟩
  replace H := Lib.hid (H.out.step hb)
  clear hb
  go_wp2_with (fail)
  refine (C0.out _).mono ?_
  rintro e w' ⟨rfl, hb⟩
  replace H := Lib.hid (H.out.step hb)
  clear hb
  go_wp2_with (fail)
  refine (C1.out _).mono ?_
  rintro e w' ⟨rfl, hb⟩
  replace H := Lib.hid (H.out.step hb)
  clear hb
  go_wp2_with (fail)
  go_ret
  exact ⟨rfl, H.out.2⟩
end Go.Proofs.YtjnjpnnogdldaaaDoor
