/- hsiao.columns, hsiao.Syndrome. -/
import Derived.Test.YthoaofbhppdfoaaDoorHs
import Derived.Test.YthoaofbhppdfoaaDoorRow
import Derived.Laws.Rows
namespace Go.Proofs.YthoaofbhppdfoaaDoor
open Go.RowKit Go.Dio

theorem info_cols : (Tryd.prog.info? 73).map (·.size) = some 39 := by kernel_rfl

theorem columns_calls (w : World) : Calls Tryd.prog 40 #[] w fun e w' => e = .returned (.agg (nums .u8 cols)) ∧ Below w.heap.size w w' := by
  go_enter Tryd.func40, Tryd.ntmps40
  go_upto_region 1 with (fail)
  go_wp2_with (first
    | go_skip
    | (refine L_store_new 73 (.tmp 0) (.tmp 1) rfl (by kernel_rfl) _ (nums .u8 cols) rfl rfl 39 info_cols rfl rfl (nums_one _ _) ?_))
  refine bodyPost_ret (results_cell_row rfl _ _ w.heap.size 73 (nums .u8 cols) _ _ rfl (Go.heap_alloc_last _ _) Tryd.underlying73 rfl info_cols) rfl ⟨rfl, (Below.refl _ _).alloc (Nat.le_refl _) _⟩

theorem Tz.of_below {B : Nat} {w w' : World} (h : Tz w) (hb : Below B w w') (h0 : 0 < B) : Tz w' := fun j hj => by
  rw [hb.cell (p := ⟨0, j, none⟩) h0]; exact h j hj
theorem Tz.of_upd {S : List Nat} {w w' : World} (h : Tz w) (hb : Upd S w w') (h0 : 0 ∉ S) : Tz w' := fun j hj => by
  have hc := h j hj
  have hl : 0 < w.heap.size := by
    rcases Nat.lt_or_ge 0 w.heap.size with h0 | h0
    · exact h0
    · have e : w.heap[0]? = none := by rw [Array.getElem?_eq_none_iff]; exact h0
      simp [World.cell?, e] at hc
  rw [← hc]; exact World.cell?_of_block (w := w) (hb.block _ hl h0)
theorem Tz.size {w : World} (h : Tz w) : 0 < w.heap.size := by
  rcases Nat.eq_zero_or_pos w.heap.size with h0 | h0
  · have hc := h 0 (by decide)
    have e : w.heap[0]? = none := by rw [Array.getElem?_eq_none_iff]; omega
    simp [World.cell?, e] at hc
  · exact h0

set_option maxRecDepth 20000 in
set_option maxHeartbeats 1000000 in
theorem Syndrome_calls (n : Nat) (w : World) (hn : n < 2 ^ 64) (hT : Tz w) : Calls Tryd.prog 38 #[.int .u64 (n : Int)] w fun e w' => e = .returned (.int .i64 (syn n : Int)) ∧ Below w.heap.size w w' := by
  have HT := Lib.hid hT
  clear hT
  have hm := and_whole hn
  obtain ⟨m, hm0⟩ : ∃ m, m = n % 2 ^ 39 := ⟨_, rfl⟩
  have hml : m < 2 ^ 39 := by rw [hm0]; exact Nat.mod_lt _ (by decide)
  have hs : syn n = syn m := by rw [hm0, syn_mod]
  rw [hs]
  rw [← hm0] at hm
  have HS := Lib.hid hs
  clear hs hm0
  go_enter Tryd.func38, Tryd.ntmps38
  go_upto_region 1 with (fail)
  go_wp2_with (fail)
  refine (columns_calls _).mono ?_
  rintro e w1 ⟨rfl, hb1⟩
  go_wp2_with (first
    | go_skip
    | (refine L_store_new 73 (.tmp 3) (.tmp 5) rfl (by kernel_rfl) _ (nums .u8 cols) rfl rfl 39 info_cols rfl rfl (nums_one _ _) ?_))
  obtain ⟨W, hW⟩ : ∃ W, W = w1.alloc (.cells (nums .u8 cols) 73) := ⟨_, rfl⟩
  have hbW : Below w.heap.size w W := by rw [hW]; exact hb1.alloc hb1.size _
  have hcell : ∀ k, k < 39 → W.cell? ⟨w1.heap.size, k, none⟩ = some (.int .u8 ((col k : Nat) : Int)) := fun k hk => by
    rw [hW, cell_of_row _ _ _ _ _ _ (Go.heap_alloc_last _ _)]
    exact nums_nth .u8 cols k hk
  have hTW : Tz W := HT.out.of_below hbW (HT.out.size)
  have HC := Lib.hid hcell
  have HTW := Lib.hid hTW
  have HB := Lib.hid hbW
  have hbs : w1.heap.size < W.heap.size := by rw [hW]; simp
  rw [← hW]
  clear hW hbW hcell hTW hb1
  go_loopw [0, 4] (fun v0 v4 wl => ∃ a s : Nat, v0 = .int .u64 (a : Int) ∧ a < 2 ^ 39 ∧ v4 = .int .u8 (s : Int) ∧ s < 128 ∧ Hid (syn m = s ^^^ syn a) ∧ wl = W) (fun v0 _ _ => (intOf v0).toNat)
  case atStart => exact ⟨m, 0, rfl, hml, rfl, by omega, by show syn m = 0 ^^^ syn m; rw [Nat.zero_xor], rfl⟩
  case round =>
    obtain ⟨a, s, rfl, ha, rfl, hs, HP, rfl⟩ := hrel
    rcases Nat.eq_zero_or_pos a with h0 | h0
    · subst h0
      go_wp2
      go_ret
      rw [HP.out, syn_zero, Nat.xor_zero]
      exact ⟨by go_num, HB.out⟩
    · have hne : ((a : Int) != 0) = true := by simp; omega
      obtain ⟨k, ek, hk, es⟩ := syn_low h0 ha
      have ES := Lib.hid es
      have hcl := col_lt k hk
      have hcc := HC.out k hk
      have e1 := and_low h0 (by omega)
      have e2 := xor8 s (col k) (by omega) (by omega)
      have hl := low_lt h0
      have hx : s ^^^ col k < 128 := Nat.xor_lt_two_pow (n := 7) hs hcl
      have hcall := Lib.hid (tz_calls a _ h0 (by omega) HTW.out)
      rw [← ek] at hcall
      clear es ek
      go_wp2_with (fail)
      refine hcall.out.mono ?_
      rintro e w2 ⟨rfl, rfl⟩
      go_wp2_with (fail)
      go_roundw
      case rel =>
        refine ⟨low a, s ^^^ col k, rfl, by omega, by go_num, hx, ?_, trivial⟩
        show syn m = s ^^^ col k ^^^ syn (low a)
        rw [HP.out, ES.out]
        generalize syn (low a) = x
        generalize col k = y
        ac_rfl
      case measure => simp [intOf]; exact hl
end Go.Proofs.YthoaofbhppdfoaaDoor
