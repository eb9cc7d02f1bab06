/- Contract: ref03.take. -/
import Derived.Test.YtgpohndnkecbeaaDoorRc
import Derived.Test.YtgpohndnkecbeaaDoorDf
namespace Go.Proofs.YtgpohndnkecbeaaDoor
open Go Go.RowKit Go.Proofs.Sc
/-- The reference's Mix, eight words written out. -/
theorem rmix_lit (x0 x1 x2 x3 x4 x5 x6 x7 : Nat) (w : World) (hS : W8 [x0, x1, x2, x3, x4, x5, x6, x7]) :
    Calls Tryd.prog 104 #[.agg #[.int .u32 x0, .int .u32 x1, .int .u32 x2, .int .u32 x3, .int .u32 x4, .int .u32 x5, .int .u32 x6, .int .u32 x7]] w fun e w' =>
      ∃ y0 y1 y2 y3 y4 y5 y6 y7 : Nat, Hid (mix [x0, x1, x2, x3, x4, x5, x6, x7] = [y0, y1, y2, y3, y4, y5, y6, y7]) ∧
      e = .returned (.agg #[.int .u32 y0, .int .u32 y1, .int .u32 y2, .int .u32 y3, .int .u32 y4, .int .u32 y5, .int .u32 y6, .int .u32 y7]) ∧ Below w.heap.size w w' := by
  obtain ⟨y0, y1, y2, y3, y4, y5, y6, y7, hm, -⟩ := (mix_w8 hS).form
  refine (rmix_any _ w hS).mono fun e w' ⟨he, hb⟩ => ⟨y0, y1, y2, y3, y4, y5, y6, y7, hm, ?_, hb⟩
  rw [he, hm]; rfl
def RtkRel (w : World) (S b : List Nat) (i : Value) (wr : World) : Prop :=
  ∃ k : Nat, k ≤ 4 ∧ i = .int .i64 k ∧ Bx wr w.heap.size 113 (wds (xk S b k)) ∧ Bx wr (w.heap.size + 1) 39 (wds b) ∧ Bx wr (w.heap.size + 2) 113 (wds [0, 0, 0, 0, 0, 0, 0, 0]) ∧ Below w.heap.size w wr
set_option maxRecDepth 100000 in
set_option maxHeartbeats 1000000 in
theorem rtake_any (x0 x1 x2 x3 x4 x5 x6 x7 a0 a1 a2 a3 : Nat) (w : World) (hS : W8 [x0, x1, x2, x3, x4, x5, x6, x7]) (hb : W4 [a0, a1, a2, a3]) :
    Calls Tryd.prog 86 #[.agg #[.int .u32 x0, .int .u32 x1, .int .u32 x2, .int .u32 x3, .int .u32 x4, .int .u32 x5, .int .u32 x6, .int .u32 x7], .agg #[.int .u32 a0, .int .u32 a1, .int .u32 a2, .int .u32 a3]] w fun e w' =>
      ∃ y0 y1 y2 y3 y4 y5 y6 y7 : Nat, Hid (blk [x0, x1, x2, x3, x4, x5, x6, x7] [a0, a1, a2, a3] = [y0, y1, y2, y3, y4, y5, y6, y7]) ∧
      e = .returned (.agg #[.int .u32 y0, .int .u32 y1, .int .u32 y2, .int .u32 y3, .int .u32 y4, .int .u32 y5, .int .u32 y6, .int .u32 y7]) ∧ Below w.heap.size w w' := by
  have hs0 := ((Bx.new w 113 (wds [x0, x1, x2, x3, x4, x5, x6, x7])).alloc (.cells (wds [a0, a1, a2, a3]) 39)).alloc (.cells (wds [0, 0, 0, 0, 0, 0, 0, 0]) 113)
  have hb0 : Bx (((w.alloc (.cells (wds [x0, x1, x2, x3, x4, x5, x6, x7]) 113)).alloc (.cells (wds [a0, a1, a2, a3]) 39)).alloc (.cells (wds [0, 0, 0, 0, 0, 0, 0, 0]) 113)) (w.heap.size + 1) 39 (wds [a0, a1, a2, a3]) := by
    have := (Bx.new (w.alloc (.cells (wds [x0, x1, x2, x3, x4, x5, x6, x7]) 113)) 39 (wds [a0, a1, a2, a3])).alloc (.cells (wds [0, 0, 0, 0, 0, 0, 0, 0]) 113)
    rwa [World.size_alloc] at this
  have hr0 : Bx (((w.alloc (.cells (wds [x0, x1, x2, x3, x4, x5, x6, x7]) 113)).alloc (.cells (wds [a0, a1, a2, a3]) 39)).alloc (.cells (wds [0, 0, 0, 0, 0, 0, 0, 0]) 113)) (w.heap.size + 2) 113 (wds [0, 0, 0, 0, 0, 0, 0, 0]) := by
    have := Bx.new ((w.alloc (.cells (wds [x0, x1, x2, x3, x4, x5, x6, x7]) 113)).alloc (.cells (wds [a0, a1, a2, a3]) 39)) 113 (wds [0, 0, 0, 0, 0, 0, 0, 0])
    rwa [World.size_alloc, World.size_alloc] at this
  have hB0 := (((Below.refl w.heap.size w).alloc (Nat.le_refl _) (.cells (wds [x0, x1, x2, x3, x4, x5, x6, x7]) 113)).alloc (by simp) (.cells (wds [a0, a1, a2, a3]) 39)).alloc (by simp; omega) (.cells (wds [0, 0, 0, 0, 0, 0, 0, 0]) 113)
  go_enter Tryd.func86, Tryd.ntmps86
  go_wp2_with fail
  go_loopw [5] (fun i wr => RtkRel w [x0, x1, x2, x3, x4, x5, x6, x7] [a0, a1, a2, a3] i wr) (fun i _ => 4 - (intOf i).toNat)
  case atStart => exact ⟨0, by omega, rfl, hs0, hb0, hr0, hB0⟩
  case round =>
    obtain ⟨k, hk, rfl, hs, hbb, hr, hB⟩ := hrel
    clear hs0 hb0 hr0 hB0
    obtain ⟨w2, rfl⟩ : ∃ w2 : World, w2 = wr := ⟨_, rfl⟩
    by_cases hk4 : k < 4
    · have c1 := hbb.word k (by simp; omega)
      have c0 := hs.word k (by rw [xk_len]; omega)
      rw [gw_xk _ _ _ _ (by omega), if_neg (by omega)] at c0
      have f0 := hs.frozen k
      have hk4' : decide ((k : Int) < 4) = true := by simp; omega
      have k1 : (k : Int) < 4 := by omega
      have k2 : (k : Int) < 8 := by omega
      have xo := u32_xor_nat (gw [x0, x1, x2, x3, x4, x5, x6, x7] k) (gw [a0, a1, a2, a3] k) (hS.lt k) (gw_lt hb.2 k)
      go_wp2_with fail
      go_region
      go_wp2_with fail
      refine ⟨⟨k + 1, by omega, by go_num, ?_, ?_, ?_, ?_⟩, by simp [intOf]; omega⟩
      · have := hs.setw k (gw [x0, x1, x2, x3, x4, x5, x6, x7] k ^^^ gw [a0, a1, a2, a3] k)
        rw [xk_succ _ _ _ (by omega)] at this
        exact this
      · exact hbb.far (p := ⟨w.heap.size, k, none⟩) (by simp) _
      · exact hr.far (p := ⟨w.heap.size, k, none⟩) (by simp) _
      · exact (hB.setCell (p := ⟨w.heap.size, k, none⟩) (Nat.le_refl _) _).drew
    · obtain rfl : k = 4 := by omega
      have hxw := xk_w8 hS hb.2 4
      obtain ⟨z0, z1, z2, z3, z4, z5, z6, z7, hz, -⟩ := hxw.form
      rw [hz] at hs hxw
      have HZ := Lib.hid hz
      clear hz
      obtain ⟨d0, d1, d2, d3, d4, d5, d6, d7⟩ := hs.w8c
      go_wp2_with fail
      refine (rmix_lit z0 z1 z2 z3 z4 z5 z6 z7 _ hxw).mono ?_
      rintro e w4 ⟨y0, y1, y2, y3, y4, y5, y6, y7, hy, rfl, hb4⟩
      have hr4 := hr.belowS hb4
      obtain ⟨k0, k1, k2, k3, k4, k5, k6, k7⟩ := hr4.w8c
      obtain ⟨f0, f1, f2, f3, f4, f5, f6, f7⟩ := hr4.w8f
      go_wp2_with fail
      have hfin := hr4.set8 y0 y1 y2 y3 y4 y5 y6 y7
      refine bodyPost_ret (v := .agg (wds [y0, y1, y2, y3, y4, y5, y6, y7])) (results_cell_row rfl _ _ (w.heap.size + 2) 113 _ (0, 0) _ rfl hfin Tryd.underlying113 rfl (by kernel_rfl)) rfl ?_
      refine ⟨y0, y1, y2, y3, y4, y5, y6, y7, ?_, rfl, ?_⟩
      · rw [blk, HZ.out]; exact hy
      · exact below_set8 (g := w.heap.size + 2) (hB.trans (hb4.mono hB.size)) (Nat.le_add_right _ _) y0 y1 y2 y3 y4 y5 y6 y7
end Go.Proofs.YtgpohndnkecbeaaDoor
