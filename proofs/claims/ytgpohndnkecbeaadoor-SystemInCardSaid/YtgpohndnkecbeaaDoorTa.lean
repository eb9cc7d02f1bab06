/- Contracts: digest.Pair, ref03.Pair, merkle.half, ref04.Half. Slices of digests; contracts: merkle.Root, ref04.Root. Contract: ref04.Root. Contracts: merkle.way, ref04.way. -/
import Derived.Test.YtgpohndnkecbeaaDoorRh
import Derived.Test.YtgpohndnkecbeaaDoorPg
import Derived.ArgAppend
import Derived.Deep.RegionHeld3
import Derived.Deep.DeepCutAuto
import Derived.Test.YtgpohndnkecbeaaDoorMd
import Derived.Deep.RegionLaw
namespace Go.Proofs.YtgpohndnkecbeaaDoor
open Go Go.RowKit Go.Proofs.Sc
set_option maxRecDepth 100000 in
set_option maxHeartbeats 400000 in
theorem half_any (n : Nat) (w : World) (hn : n ≤ 1000000) :
    Calls Tryd.prog 99 #[.int .i64 (n : Nat)] w fun e w' => e = .returned (.int .i64 (half n : Nat)) ∧ w = w' := by
  go_enter Tryd.func99, Tryd.ntmps99
  go_wp2_with fail
  go_loop [3] (fun i => ∃ k f : Nat, i = .int .i64 k ∧ 0 < k ∧ k ≤ 1000000 ∧ n ≤ k + f ∧ half n = hgo f k n) (fun i => n - (intOf i).toNat)
  case atStart => exact ⟨1, n, rfl, by omega, by omega, by omega, rfl⟩
  case round =>
    obtain ⟨k, f, rfl, h0, hk, hf, hh⟩ := hrel
    by_cases hlt : 2 * k < n
    · obtain ⟨f, rfl⟩ : ∃ g, f = g + 1 := ⟨f - 1, by omega⟩
      rw [hgo, if_pos hlt] at hh
      have HH := Lib.hid hh
      clear hh
      have hd : decide (2 * (k : Int) < (n : Int)) = true := by simp; omega
      go_wp2_with fail
      exact ⟨⟨2 * k, f, by go_num, by omega, by omega, by omega, HH.out⟩, by simp [intOf]; omega⟩
    · rw [hgo_stop f k n hlt] at hh
      have HH := Lib.hid hh
      clear hh
      have hd : decide (2 * (k : Int) < (n : Int)) = false := by simp; omega
      go_wp2_with fail
      go_ret
      exact ⟨by rw [HH.out]; rfl, rfl⟩
set_option maxRecDepth 100000 in
set_option maxHeartbeats 400000 in
theorem rhalf_any (n : Nat) (w : World) (hn : n ≤ 1000000) :
    Calls Tryd.prog 83 #[.int .i64 (n : Nat)] w fun e w' => e = .returned (.int .i64 (half n : Nat)) ∧ w = w' := by
  go_enter Tryd.func83, Tryd.ntmps83
  go_wp2_with fail
  go_loop [3] (fun i => ∃ k f : Nat, i = .int .i64 k ∧ 0 < k ∧ k ≤ 1000000 ∧ n ≤ k + f ∧ half n = hgo f k n) (fun i => n - (intOf i).toNat)
  case atStart => exact ⟨1, n, rfl, by omega, by omega, by omega, rfl⟩
  case round =>
    obtain ⟨k, f, rfl, h0, hk, hf, hh⟩ := hrel
    by_cases hlt : 2 * k < n
    · obtain ⟨f, rfl⟩ : ∃ g, f = g + 1 := ⟨f - 1, by omega⟩
      rw [hgo, if_pos hlt] at hh
      have HH := Lib.hid hh
      clear hh
      have hd : decide (2 * (k : Int) < (n : Int)) = true := by simp; omega
      go_wp2_with fail
      exact ⟨⟨2 * k, f, by go_num, by omega, by omega, by omega, HH.out⟩, by simp [intOf]; omega⟩
    · rw [hgo_stop f k n hlt] at hh
      have HH := Lib.hid hh
      clear hh
      have hd : decide (2 * (k : Int) < (n : Int)) = false := by simp; omega
      go_wp2_with fail
      go_ret
      exact ⟨by rw [HH.out]; rfl, rfl⟩
theorem pairD_blk (a0 a1 a2 a3 b0 b1 b2 b3 : Nat) : pairD [a0, a1, a2, a3] [b0, b1, b2, b3] = (blk (blk [2, 0, 0, 0, 0, 0, 0, 0] [a0, a1, a2, a3]) [b0, b1, b2, b3]).take 4 := by
  show (takeB _ [a0, a1, a2, a3, b0, b1, b2, b3]).take 4 = _
  rw [takeB, takeB, takeB]
  intro a b c d l e; cases e
/-- Two arguments and a result, laid. -/
theorem three_new (w : World) (a0 a1 a2 a3 b0 b1 b2 b3 : Nat) :
    Bx (((w.alloc (.cells #[.int .u32 a0, .int .u32 a1, .int .u32 a2, .int .u32 a3] 39)).alloc (.cells #[.int .u32 b0, .int .u32 b1, .int .u32 b2, .int .u32 b3] 39)).alloc (.cells #[.int .u32 0, .int .u32 0, .int .u32 0, .int .u32 0] 39)) w.heap.size 39 (wds [a0, a1, a2, a3]) ∧
    Bx (((w.alloc (.cells #[.int .u32 a0, .int .u32 a1, .int .u32 a2, .int .u32 a3] 39)).alloc (.cells #[.int .u32 b0, .int .u32 b1, .int .u32 b2, .int .u32 b3] 39)).alloc (.cells #[.int .u32 0, .int .u32 0, .int .u32 0, .int .u32 0] 39)) (w.heap.size + 1) 39 (wds [b0, b1, b2, b3]) ∧
    Bx (((w.alloc (.cells #[.int .u32 a0, .int .u32 a1, .int .u32 a2, .int .u32 a3] 39)).alloc (.cells #[.int .u32 b0, .int .u32 b1, .int .u32 b2, .int .u32 b3] 39)).alloc (.cells #[.int .u32 0, .int .u32 0, .int .u32 0, .int .u32 0] 39)) (w.heap.size + 1 + 1) 39 (wds [0, 0, 0, 0]) ∧
    Below w.heap.size w (((w.alloc (.cells #[.int .u32 a0, .int .u32 a1, .int .u32 a2, .int .u32 a3] 39)).alloc (.cells #[.int .u32 b0, .int .u32 b1, .int .u32 b2, .int .u32 b3] 39)).alloc (.cells #[.int .u32 0, .int .u32 0, .int .u32 0, .int .u32 0] 39)) := by
  refine ⟨((Bx.new w 39 (wds [a0, a1, a2, a3])).alloc _).alloc _, ?_, ?_, (((Below.refl _ _).alloc (Nat.le_refl _) _).alloc (by simp) _).alloc (by simp; omega) _⟩
  · have := (Bx.new (w.alloc (.cells #[.int .u32 a0, .int .u32 a1, .int .u32 a2, .int .u32 a3] 39)) 39 (wds [b0, b1, b2, b3])).alloc (.cells #[.int .u32 0, .int .u32 0, .int .u32 0, .int .u32 0] 39)
    rw [World.size_alloc] at this
    exact this
  · have := Bx.new ((w.alloc (.cells #[.int .u32 a0, .int .u32 a1, .int .u32 a2, .int .u32 a3] 39)).alloc (.cells #[.int .u32 b0, .int .u32 b1, .int .u32 b2, .int .u32 b3] 39)) 39 (wds [0, 0, 0, 0])
    rw [World.size_alloc, World.size_alloc] at this
    exact this
def PairCut (w : World) (A B : List Nat) (v : Value) (wx : World) : Prop :=
  ∃ g y0 y1 y2 y3 y4 y5 y6 y7 : Nat, v = .pointer (some ⟨g, 0, none⟩) ∧ blk (blk [2, 0, 0, 0, 0, 0, 0, 0] A) B = [y0, y1, y2, y3, y4, y5, y6, y7] ∧ Bx wx g 113 (wds [y0, y1, y2, y3, y4, y5, y6, y7]) ∧ Bx wx (w.heap.size + 1 + 1) 39 (wds [0, 0, 0, 0]) ∧ Below w.heap.size w wx
set_option maxRecDepth 100000 in
set_option maxHeartbeats 1000000 in
theorem rpair_any (a0 a1 a2 a3 b0 b1 b2 b3 : Nat) (w : World) (ha : W4 [a0, a1, a2, a3]) (hb : W4 [b0, b1, b2, b3]) :
    Calls Tryd.prog 102 #[.agg #[.int .u32 a0, .int .u32 a1, .int .u32 a2, .int .u32 a3], .agg #[.int .u32 b0, .int .u32 b1, .int .u32 b2, .int .u32 b3]] w fun e w' =>
      ∃ d0 d1 d2 d3 : Nat, Hid (pairD [a0, a1, a2, a3] [b0, b1, b2, b3] = [d0, d1, d2, d3]) ∧ e = .returned (.agg #[.int .u32 d0, .int .u32 d1, .int .u32 d2, .int .u32 d3]) ∧ Below w.heap.size w w' := by
  go_enter Tryd.func102, Tryd.ntmps102
  go_wp2_with fail
  have h2 : W8 [2, 0, 0, 0, 0, 0, 0, 0] := ⟨rfl, by simp⟩
  obtain ⟨haB, hbB, hrB, hBW⟩ := three_new w a0 a1 a2 a3 b0 b1 b2 b3
  generalize (((w.alloc (.cells #[.int .u32 a0, .int .u32 a1, .int .u32 a2, .int .u32 a3] 39)).alloc (.cells #[.int .u32 b0, .int .u32 b1, .int .u32 b2, .int .u32 b3] 39)).alloc (.cells #[.int .u32 0, .int .u32 0, .int .u32 0, .int .u32 0] 39)) = W at haB hbB hrB hBW ⊢
  obtain ⟨m0, m1, m2, m3⟩ := haB.w4c
  obtain ⟨n0, n1, n2, n3⟩ := hbB.w4c
  obtain ⟨r0, r1, r2, r3⟩ := hrB.w4c
  have s0 := haB.lt
  have s1 := hbB.lt
  have s2 := hrB.lt
  have z0 : W.heap.size ≠ w.heap.size := by omega
  have z1 : W.heap.size ≠ w.heap.size + 1 := by omega
  go_cut [5] (fun s5 wx => PairCut w [a0, a1, a2, a3] [b0, b1, b2, b3] s5 wx)
  case first =>
    go_region_held3 (fun X : World => X.cell? ⟨w.heap.size, 0, none⟩ = some (.int .u32 (a0 : Nat)) ∧ X.cell? ⟨w.heap.size, 1, none⟩ = some (.int .u32 (a1 : Nat)) ∧ X.cell? ⟨w.heap.size, 2, none⟩ = some (.int .u32 (a2 : Nat)) ∧ X.cell? ⟨w.heap.size, 3, none⟩ = some (.int .u32 (a3 : Nat)) ∧ X.cell? ⟨w.heap.size + 1, 0, none⟩ = some (.int .u32 (b0 : Nat)) ∧ X.cell? ⟨w.heap.size + 1, 1, none⟩ = some (.int .u32 (b1 : Nat)) ∧ X.cell? ⟨w.heap.size + 1, 2, none⟩ = some (.int .u32 (b2 : Nat)) ∧ X.cell? ⟨w.heap.size + 1, 3, none⟩ = some (.int .u32 (b3 : Nat))) (go_keep) (first
      | (go_at_call_of 86 (Value.int .u32 (a0 : Int)); refine (rtake_any 2 0 0 0 0 0 0 0 a0 a1 a2 a3 _ h2 ha).mono ?_; rintro e w1 ⟨x0, x1, x2, x3, x4, x5, x6, x7, hx, rfl, hb1⟩; first
        | (have haB1 := haB.drew.belowS hb1; obtain ⟨p0, p1, p2, p3⟩ := haB1.w4c; have hbB1 := hbB.drew.belowS hb1; have hrB1 := hrB.drew.belowS hb1; have hB1 := hBW.drew.trans (hb1.mono hBW.size); obtain ⟨k0, k1, k2, k3⟩ := hbB1.w4c; have s3 := hbB1.lt; have s4 := hrB1.lt; have z2 : w1.heap.size ≠ w.heap.size := (by omega); have z3 : w1.heap.size ≠ w.heap.size + 1 := (by omega))
        | (have haB1 := (haB.drew.alloc _).belowS hb1; obtain ⟨p0, p1, p2, p3⟩ := haB1.w4c; have hbB1 := (hbB.drew.alloc _).belowS hb1; have hrB1 := (hrB.drew.alloc _).belowS hb1; have hB1 := (hBW.drew.alloc hBW.size _).trans (hb1.mono (hBW.alloc hBW.size _).size); have hat1 : Bx w1 W.heap.size 113 (wds [0, 0, 0, 0, 0, 0, 0, 0]) := (Bx.new W.drew 113 (wds [0, 0, 0, 0, 0, 0, 0, 0])).belowS hb1; obtain ⟨k0, k1, k2, k3⟩ := hbB1.w4c; have s3 := hbB1.lt; have s4 := hrB1.lt; have z2 : w1.heap.size ≠ w.heap.size := (by omega); have z3 : w1.heap.size ≠ w.heap.size + 1 := (by omega)))
      | (go_at_call_of 86 (Value.int .u32 (b0 : Int)); refine (rtake_any x0 x1 x2 x3 x4 x5 x6 x7 b0 b1 b2 b3 _ ?_ hb).mono ?_; rw [← hx.out]; exact blk_w8 h2 ha.2; rintro e w2 ⟨y0, y1, y2, y3, y4, y5, y6, y7, hy, rfl, hb2⟩; first
        | (have haB2 := (haB1.alloc _).belowS hb2; have hbB2 := (hbB1.alloc _).belowS hb2; obtain ⟨p4, p5, p6, p7⟩ := haB2.w4c; obtain ⟨k4, k5, k6, k7⟩ := hbB2.w4c; have hrB2 := (hrB1.alloc _).belowS hb2; have hB2 := (hB1.alloc hB1.size _).trans (hb2.mono (hB1.alloc hB1.size _).size); have hat2 : Bx w2 w1.heap.size 113 (wds [0, 0, 0, 0, 0, 0, 0, 0]) := (Bx.new w1 113 (wds [0, 0, 0, 0, 0, 0, 0, 0])).belowS hb2; obtain ⟨q0, q1, q2, q3⟩ := hrB2.w4c; have s5 := hrB2.lt; have z4 : w2.heap.size ≠ w.heap.size := (by omega); have z5 : w2.heap.size ≠ w.heap.size + 1 := (by omega); obtain ⟨f0, f1, f2, f3⟩ := hrB2.w4f; obtain ⟨c0, c1, c2, c3, c4, c5, c6, c7⟩ := hat2.w8c; obtain ⟨g0, g1, g2, g3, g4, g5, g6, g7⟩ := hat2.w8f)
        | (have haB2 := haB1.belowS hb2; have hbB2 := hbB1.belowS hb2; obtain ⟨p4, p5, p6, p7⟩ := haB2.w4c; obtain ⟨k4, k5, k6, k7⟩ := hbB2.w4c; have hrB2 := hrB1.belowS hb2; have hB2 := hB1.trans (hb2.mono hB1.size); have hat2 := hat1.belowS hb2; obtain ⟨q0, q1, q2, q3⟩ := hrB2.w4c; have s5 := hrB2.lt; have z4 : w2.heap.size ≠ w.heap.size := (by omega); have z5 : w2.heap.size ≠ w.heap.size + 1 := (by omega); obtain ⟨f0, f1, f2, f3⟩ := hrB2.w4f; obtain ⟨c0, c1, c2, c3, c4, c5, c6, c7⟩ := hat2.w8c; obtain ⟨g0, g1, g2, g3, g4, g5, g6, g7⟩ := hat2.w8f)
        | (have haB2 := haB1.belowS hb2; have hbB2 := hbB1.belowS hb2; obtain ⟨p4, p5, p6, p7⟩ := haB2.w4c; obtain ⟨k4, k5, k6, k7⟩ := hbB2.w4c; have hrB2 := hrB1.belowS hb2; have hB2 := hB1.trans (hb2.mono hB1.size); obtain ⟨q0, q1, q2, q3⟩ := hrB2.w4c; have s5 := hrB2.lt; have z4 : w2.heap.size ≠ w.heap.size := (by omega); have z5 : w2.heap.size ≠ w.heap.size + 1 := (by omega); obtain ⟨f0, f1, f2, f3⟩ := hrB2.w4f)))
    all_goals
      go_wp2_with fail
      go_meet
      case rel =>
        have hy' : blk (blk [2, 0, 0, 0, 0, 0, 0, 0] [a0, a1, a2, a3]) [b0, b1, b2, b3] = [y0, y1, y2, y3, y4, y5, y6, y7] := by rw [hx.out]; exact hy.out
        first
          | exact ⟨_, y0, y1, y2, y3, y4, y5, y6, y7, rfl, hy', hat2.set8 _ _ _ _ _ _ _ _, hrB2.far8 (by omega) _ _ _ _ _ _ _ _, below_set8 hB2 (by omega) _ _ _ _ _ _ _ _⟩
          | exact ⟨_, y0, y1, y2, y3, y4, y5, y6, y7, rfl, hy', Bx.new w2 113 _, hrB2.alloc _, hB2.alloc hB2.size _⟩
  case rest =>
    obtain ⟨g, y0, y1, y2, y3, y4, y5, y6, y7, rfl, hy, hg, hr, hB⟩ := hcut
    obtain ⟨c0, c1, c2, c3, -⟩ := hg.w8c
    obtain ⟨q0, q1, q2, q3⟩ := hr.w4c
    obtain ⟨f0, f1, f2, f3⟩ := hr.w4f
    have HY := Lib.hid hy
    clear hy
    go_wp2_with fail
    have hfin := hr.set4 y0 y1 y2 y3
    refine bodyPost_ret (v := .agg (wds [y0, y1, y2, y3])) (results_cell_row rfl _ _ (w.heap.size + 1 + 1) 39 _ (0, 0) _ rfl hfin Tryd.underlying39 rfl (by kernel_rfl)) rfl ⟨y0, y1, y2, y3, ?_, rfl, ?_⟩
    · show pairD _ _ = _
      rw [pairD_blk, HY.out]; rfl
    · exact below_set4 hB (by omega) _ _ _ _
set_option maxRecDepth 100000 in
set_option maxHeartbeats 1000000 in
theorem pair_any (a0 a1 a2 a3 b0 b1 b2 b3 : Nat) (w : World) (hT : Turns w) (ha : W4 [a0, a1, a2, a3]) (hb : W4 [b0, b1, b2, b3]) :
    Calls Tryd.prog 101 #[.agg #[.int .u32 a0, .int .u32 a1, .int .u32 a2, .int .u32 a3], .agg #[.int .u32 b0, .int .u32 b1, .int .u32 b2, .int .u32 b3]] w fun e w' =>
      ∃ d0 d1 d2 d3 : Nat, Hid (pairD [a0, a1, a2, a3] [b0, b1, b2, b3] = [d0, d1, d2, d3]) ∧ e = .returned (.agg #[.int .u32 d0, .int .u32 d1, .int .u32 d2, .int .u32 d3]) ∧ Below w.heap.size w w' := by
  go_enter Tryd.func101, Tryd.ntmps101
  go_wp2_with fail
  obtain ⟨haB, hbB, hrB, hBW⟩ := three_new w a0 a1 a2 a3 b0 b1 b2 b3
  generalize (((w.alloc (.cells #[.int .u32 a0, .int .u32 a1, .int .u32 a2, .int .u32 a3] 39)).alloc (.cells #[.int .u32 b0, .int .u32 b1, .int .u32 b2, .int .u32 b3] 39)).alloc (.cells #[.int .u32 0, .int .u32 0, .int .u32 0, .int .u32 0] 39)) = W at haB hbB hrB hBW ⊢
  have hTW : Turns W := hT.belowS hBW
  go_still_tail 2, (by kernel_rfl)
  change wpList _ _ _ _ _ W.drew
  have haB' := haB.drew
  have hbB' := hbB.drew
  have hrB' := hrB.drew
  have hBW' := hBW.drew
  have hTW' : Turns W.drew := hTW
  generalize W.drew = X at haB' hbB' hrB' hBW' hTW' ⊢
  obtain ⟨i, hi, hz0, hz1, hz2⟩ := info_parts infoWord
  have holds : ∀ b, some (⟨w.heap.size, 0, none⟩ : Addr) = some b → ∀ j u, (vw [a0, a1, a2, a3])[j]? = some u → X.cell? (b.add j) = some u := by
    intro b hb j u hu
    cases hb
    rw [add_at, Nat.zero_add, haB'.cell, ← hu]
    simp [wds, vw]
  have hnews : ∀ j u, (vw [b0, b1, b2, b3])[j]? = some u → X.cell? ((⟨w.heap.size + 1, 0, none⟩ : Addr).add j) = some u := by
    intro j u hu
    rw [add_at, Nat.zero_add, hbB'.cell, ← hu]
    simp [wds, vw]
  go_wp2_with (first | (at_builtin; refine wpList_append_grows X rfl _ _ 85 rfl 37 i (.int .u32 0) 1 4 Tryd.underlying85 hi hz0 hz1 hz2 rfl (by decide) (some ⟨w.heap.size, 0, none⟩) 4 4 (vw [a0, a1, a2, a3]) rfl (fun h => nomatch h) rfl holds ⟨w.heap.size + 1, 0, none⟩ 4 4 (vw [b0, b1, b2, b3]) rfl rfl hnews (vw_one _) (by decide) (by decide) (by decide) ?_; intro v1 w1 hown1 hg1))
  obtain ⟨A1, c1, rfl, hc1, hc2⟩ := own_slice_cap hown1
  have hr1 : Rs w1 A1 8 1 (vw [a0, a1, a2, a3, b0, b1, b2, b3]) := by
    have := Rs.of_own hown1
    rw [← vw_app] at this
    exact this
  have hb1 : Below X.heap.size X w1 := (Below.refl _ _).grown hg1 (Nat.le_refl _) (by simp)
  have hx : ∀ x ∈ [a0, a1, a2, a3, b0, b1, b2, b3], x < 4294967296 := by
    intro x hx
    rcases List.mem_append.1 (show x ∈ [a0, a1, a2, a3] ++ [b0, b1, b2, b3] from hx) with h | h
    · exact ha.2 x h
    · exact hb.2 x h
  clear hown1 hg1 holds hnews haB' hbB' haB hbB
  refine (take_lit 2 A1 8 c1 [a0, a1, a2, a3, b0, b1, b2, b3] w1 (hTW'.belowS hb1) (by decide) hr1 hx (by decide) hc1 hc2).mono ?_
  rintro e w2 ⟨d0, d1, d2, d3, hd, rfl, hb2⟩
  have hB1 := hBW'.trans (hb1.mono hBW'.size)
  have hB2 := hB1.trans (hb2.mono hB1.size)
  have hr2 := (hrB'.belowS hb1).belowS hb2
  obtain ⟨q0, q1, q2, q3⟩ := hr2.w4c
  obtain ⟨f0, f1, f2, f3⟩ := hr2.w4f
  go_wp2_with fail
  have hfin := hr2.set4 d0 d1 d2 d3
  refine bodyPost_ret (v := .agg (wds [d0, d1, d2, d3])) (results_cell_row rfl _ _ (w.heap.size + 1 + 1) 39 _ (0, 0) _ rfl hfin Tryd.underlying39 rfl (by kernel_rfl)) rfl ⟨d0, d1, d2, d3, hd, rfl, ?_⟩
  exact below_set4 hB2 (by omega) _ _ _ _
end Go.Proofs.YtgpohndnkecbeaaDoor
namespace Go.Proofs.Sc
open Go Go.RowKit
/-- Digests as cells' values. -/
def vd (l : Dl) : List Value := vw l.flatten
theorem flat_len {l : Dl} (h : Wl l) : l.flatten.length = l.length * 4 := by
  induction l with
  | nil => rfl
  | cons d l ih =>
    rw [List.flatten_cons, List.length_append, ih (fun x hx => h x (by simp [hx])), (h d (by simp)).1, List.length_cons]; omega
theorem vd_len {l : Dl} (h : Wl l) : (vd l).length = l.length * 4 := by rw [vd, vw_len, flat_len h]
theorem flat_take {l : Dl} (h : Wl l) (k : Nat) : l.flatten.take (k * 4) = (l.take k).flatten := by
  induction l generalizing k with
  | nil => simp
  | cons d l ih =>
    cases k with
    | zero => simp
    | succ k =>
      have hd := (h d (by simp)).1
      rw [List.flatten_cons, List.take_succ_cons, List.flatten_cons, show (k + 1) * 4 = d.length + k * 4 by omega, List.take_length_add_append, ih (fun x hx => h x (by simp [hx]))]
theorem flat_drop {l : Dl} (h : Wl l) (k : Nat) : l.flatten.drop (k * 4) = (l.drop k).flatten := by
  induction l generalizing k with
  | nil => simp
  | cons d l ih =>
    cases k with
    | zero => simp
    | succ k =>
      have hd := (h d (by simp)).1
      rw [List.flatten_cons, List.drop_succ_cons, show (k + 1) * 4 = d.length + k * 4 by omega, List.drop_length_add_append, ih (fun x hx => h x (by simp [hx]))]
theorem vd_take {l : Dl} (h : Wl l) (k : Nat) : (vd l).take (k * 4) = vd (l.take k) := by
  rw [vd, vw, ← List.map_take, flat_take h]; rfl
theorem vd_drop {l : Dl} (h : Wl l) (k : Nat) : (vd l).drop (k * 4) = vd (l.drop k) := by
  rw [vd, vw, ← List.map_drop, flat_drop h]; rfl
theorem vd_app (a b : Dl) : vd (a ++ b) = vd a ++ vd b := by simp [vd, vw]
theorem vd_one (d0 d1 d2 d3 : Nat) : vd [[d0, d1, d2, d3]] = [.int .u32 d0, .int .u32 d1, .int .u32 d2, .int .u32 d3] := by simp [vd, vw]
/-- A slice of digests. -/
structure DS (w : World) (A : Option Addr) (n c : Nat) (l : Dl) : Prop where
  rs : Rs w A n 4 (vd l)
  wl : Wl l
  len : l.length = n
  cap : n ≤ c
  max : c ≤ 9223372036854775807
section
variable {w w' : World} {A : Option Addr} {n c : Nat} {l : Dl}
theorem DS.below (h : DS w A n c l) (hb : Below w.heap.size w w') : DS w' A n c l := ⟨h.rs.below hb, h.wl, h.len, h.cap, h.max⟩
theorem DS.drew (h : DS w A n c l) : DS w.drew A n c l := ⟨h.rs, h.wl, h.len, h.cap, h.max⟩
theorem DS.take (h : DS w A n c l) {k : Nat} (hk : k ≤ n) : DS w A k c (l.take k) := by
  refine ⟨?_, h.wl.take k, by rw [List.length_take, h.len]; omega, Nat.le_trans hk h.cap, h.max⟩
  have := h.rs.take hk
  rwa [vd_take h.wl] at this
theorem DS.drop (h : DS w A n c l) {k : Nat} (hk : k < n) : ∃ g o, A = some ⟨g, o, none⟩ ∧ DS w (some ⟨g, o + k * 4, none⟩) (n - k) (c - k) (l.drop k) := by
  obtain ⟨g, o, e, hr⟩ := h.rs.drop hk
  refine ⟨g, o, e, ⟨?_, h.wl.drop k, by rw [List.length_drop, h.len], ?_, ?_⟩⟩
  · rwa [vd_drop h.wl] at hr
  · have := h.cap; omega
  · have := h.max; omega
theorem DS.dig (h : DS w A n c l) {k : Nat} (hk : k < n) : ∃ g o d0 d1 d2 d3, A = some ⟨g, o, none⟩ ∧ l.getD k [] = [d0, d1, d2, d3] ∧ W4 [d0, d1, d2, d3] ∧
    w.cell? ⟨g, o + k * 4, none⟩ = some (.int .u32 (d0 : Nat)) ∧ w.cell? ⟨g, o + k * 4 + 1, none⟩ = some (.int .u32 (d1 : Nat)) ∧ w.cell? ⟨g, o + k * 4 + 2, none⟩ = some (.int .u32 (d2 : Nat)) ∧ w.cell? ⟨g, o + k * 4 + 3, none⟩ = some (.int .u32 (d3 : Nat)) := by
  obtain ⟨g, o, e, hc⟩ := h.rs.2 (by omega)
  have hlen := h.len
  have hw : W4 l[k] := h.wl _ (List.getElem_mem (by omega))
  obtain ⟨d0, d1, d2, d3, hd, -⟩ := hw.form
  have hfl : (l.drop k).flatten = d0 :: d1 :: d2 :: d3 :: (l.drop (k + 1)).flatten := by
    rw [List.drop_eq_getElem_cons (by omega), List.flatten_cons, hd]; rfl
  have hv : ∀ j u, ((d0 :: d1 :: d2 :: d3 :: (l.drop (k + 1)).flatten).map fun x : Nat => Value.int .u32 (x : Int))[j]? = some u → (vd l)[k * 4 + j]? = some u := by
    intro j u hu
    rw [← hfl, ← flat_drop h.wl] at hu
    rw [vd, vw, ← hu, ← List.getElem?_drop, List.map_drop]
  refine ⟨g, o, d0, d1, d2, d3, e, by simp [List.getD_eq_getElem?_getD, hlen, hk, hd], hd ▸ hw, ?_, ?_, ?_, ?_⟩
  · exact hc _ _ (hv 0 _ rfl)
  · rw [Nat.add_assoc]; exact hc _ _ (hv 1 _ rfl)
  · rw [Nat.add_assoc]; exact hc _ _ (hv 2 _ rfl)
  · rw [Nat.add_assoc]; exact hc _ _ (hv 3 _ rfl)
end
end Go.Proofs.Sc
namespace Go.Proofs.YtgpohndnkecbeaaDoor
open Go Go.RowKit Go.Proofs.Sc
/-- l[k:], of digests. -/
theorem sl42_l (g o n c k : Nat) (hk : k < c) (hn : k ≤ n) (w : World) : (Instr.slice 42 (.slice (some ⟨g, o, none⟩) n c) (some (.int .i64 (k : Int))) none none).run Tryd.prog w = .ok (.slice (some ⟨g, o + k * 4, none⟩) (n - k) (c - k)) w := by
  rw [run_slice_l w 42 (some ⟨g, o, none⟩) n c el42 .i64 (k : Int) (by omega) (by omega), sz42]
  simp only [Result.andThen, Int.toNat_natCast, sliced, if_neg (show ¬ c = k by omega), Option.map_some, add_at]
def RootIs (l : Dl) (w : World) (e : Ending) (w' : World) : Prop :=
  ∃ d0 d1 d2 d3 : Nat, Hid (root l = [d0, d1, d2, d3]) ∧ e = .returned (.agg #[.int .u32 d0, .int .u32 d1, .int .u32 d2, .int .u32 d3]) ∧ Below w.heap.size w w'
/-- The end of a function whose one result is a digest in a cell of its own. -/
theorem below_new4 {w w1 : World} (o : Obj) (hb : Below (w.alloc o).heap.size (w.alloc o) w1) : Below w.heap.size w w1 :=
  ((Below.refl _ _).alloc (Nat.le_refl _) _).trans (hb.mono (by simp))
set_option maxRecDepth 100000 in
set_option maxHeartbeats 1000000 in
theorem mroot_nil (A : Option Addr) (c : Nat) (w : World) (hT : Turns w) : Calls Tryd.prog 80 #[.slice A 0 c] w fun e w' => RootIs [] w e w' := by
  go_enter Tryd.func80, Tryd.ntmps80
  go_wp2_with fail
  refine (of_lit _ _ ?_ (by decide)).mono ?_
  · exact hT.belowS ((Below.refl _ _).alloc (Nat.le_refl _) _)
  rintro e w1 ⟨d0, d1, d2, d3, hd, rfl, hb1⟩
  have hr1 : Bx w1 w.heap.size 39 (wds [0, 0, 0, 0]) := (Bx.new w 39 _).belowS hb1
  have hB1 := below_new4 _ hb1
  obtain ⟨q0, q1, q2, q3⟩ := hr1.w4c
  obtain ⟨f0, f1, f2, f3⟩ := hr1.w4f
  clear hb1
  go_wp2_with fail
  have hfin := hr1.set4 d0 d1 d2 d3
  refine bodyPost_ret (v := .agg (wds [d0, d1, d2, d3])) (results_cell_row rfl _ _ w.heap.size 39 _ (0, 0) _ rfl hfin Tryd.underlying39 rfl (by kernel_rfl)) rfl ⟨d0, d1, d2, d3, ?_, rfl, below_set4 hB1 (Nat.le_refl _) _ _ _ _⟩
  show root [] = _
  rw [root_nil]; exact hd.out
set_option maxRecDepth 100000 in
set_option maxHeartbeats 1000000 in
theorem mroot_one (A : Option Addr) (c : Nat) (l : Dl) (w : World) (hd : DS w A 1 c l) : Calls Tryd.prog 80 #[.slice A 1 c] w fun e w' => RootIs l w e w' := by
  obtain ⟨g, o, d0, d1, d2, d3, rfl, hg, hw, c0, c1, c2, c3⟩ := hd.dig (k := 0) (by omega)
  rw [Nat.zero_mul, Nat.add_zero] at c0 c1 c2 c3
  have hgl : g < w.heap.size := World.block_lt_of_cell? w _ c0
  have hl := hd.len
  have HR : Hid (root l = [d0, d1, d2, d3]) := by
    match l, hl with
    | [x], _ => show root [x] = _; rw [root_one]; exact hg
  clear hg hl
  go_enter Tryd.func80, Tryd.ntmps80
  go_wp2_with fail
  have hfin := Bx.new w 39 (wds [d0, d1, d2, d3])
  refine bodyPost_ret (v := .agg (wds [d0, d1, d2, d3])) (results_cell_row rfl _ _ w.heap.size 39 _ (0, 0) _ rfl hfin Tryd.underlying39 rfl (by kernel_rfl)) rfl ⟨d0, d1, d2, d3, HR, rfl, (Below.refl _ _).alloc (Nat.le_refl _) _⟩
set_option maxRecDepth 100000 in
set_option maxHeartbeats 1000000 in
theorem mroot_any (N : Nat) : ∀ (l : Dl) (A : Option Addr) (n c : Nat) (w : World), n ≤ N → n ≤ 1000000 → DS w A n c l → Turns w →
    Calls Tryd.prog 80 #[.slice A n c] w fun e w' => RootIs l w e w' := by
  induction N with
  | zero =>
    intro l A n c w hn _ hd hT
    obtain rfl : n = 0 := by omega
    obtain rfl : l = [] := List.eq_nil_of_length_eq_zero hd.len
    exact mroot_nil A c w hT
  | succ N ih =>
    intro l A n c w hn hn6 hd hT
    by_cases h0 : n = 0
    · subst h0
      obtain rfl : l = [] := List.eq_nil_of_length_eq_zero hd.len
      exact mroot_nil A c w hT
    by_cases h1 : n = 1
    · subst h1
      exact mroot_one A c l w hd
    · have IH := Lib.hid ih
      clear ih
      have e0 : ((n : Int) == 0) = false := by simp; omega
      have e1 : ((n : Int) == 1) = false := by simp; omega
      go_enter Tryd.func80, Tryd.ntmps80
      go_wp2_with fail
      refine (half_any n _ hn6).mono ?_
      rintro e w1 ⟨rfl, rfl⟩
      have hk1 := half_lt (n := n) (by omega)
      have hk2 := half_pos n
      have HR : Hid (root l = pairD (root (l.take (half n))) (root (l.drop (half n)))) := by
        have hl := hd.len
        show root l = _
        rw [root_two l (by omega), hl]
      obtain ⟨k, hk⟩ : ∃ k, k = half n := ⟨_, rfl⟩
      rw [← hk] at hk1 hk2 HR ⊢
      clear hk
      go_wp2_with fail
      obtain ⟨g, o, rfl, hdr⟩ := hd.drop hk1
      have hdt := hd.take (k := k) (by omega)
      have hcap := hd.cap
      have hs1 := sl42_h (some ⟨g, o, none⟩) n c k (by omega)
      have hs2 := sl42_l g o n c k (by omega) (by omega)
      have hb0 : Below w.heap.size w (w.alloc (.cells #[.int .u32 0, .int .u32 0, .int .u32 0, .int .u32 0] 39)) := (Below.refl _ _).alloc (Nat.le_refl _) _
      have hr0 : Bx (w.alloc (.cells #[.int .u32 0, .int .u32 0, .int .u32 0, .int .u32 0] 39)) w.heap.size 39 (wds [0, 0, 0, 0]) := Bx.new w 39 _
      have hdr0 := hdr.below hb0
      have hdt0 := hdt.below hb0
      have hT0 := hT.belowS hb0
      have hwt := root_w4 _ hdt.wl
      have hwr := root_w4 _ hdr.wl
      generalize (w.alloc (.cells #[.int .u32 0, .int .u32 0, .int .u32 0, .int .u32 0] 39)) = W at hb0 hr0 hdr0 hdt0 hT0 ⊢
      clear hdr hdt hd hT
      go_region_with (first
        | (go_at_call_of 80 (Value.slice (some ⟨g, o, none⟩) k c); refine (IH.out (l.take k) _ k c _ ?_ ?_ ?_ ?_).mono ?_; omega; omega; exact hdt0.drew; exact hT0; rintro e w1 ⟨a0, a1, a2, a3, ha, rfl, hb1⟩; have hB1 := hb0.drew.trans (hb1.mono hb0.size); have hdr1 := hdr0.drew.below hb1; have hT1 : Turns w1 := Turns.belowS (w := W.drew) hT0 hb1; have hr1 := hr0.drew.belowS hb1)
        | (go_at_call_of 80 (Value.slice (some ⟨g, o + k * 4, none⟩) (n - k) (c - k)); refine (IH.out (l.drop k) _ (n - k) (c - k) _ ?_ ?_ ?_ ?_).mono ?_; omega; omega; exact hdr1; exact hT1; rintro e w2 ⟨b0, b1, b2, b3, hb, rfl, hb2⟩; have hB2 := hB1.trans (hb2.mono hB1.size); have hT2 := hT1.belowS hb2; have hr2 := hr1.belowS hb2)
        | (go_at_call 101; refine (pair_any a0 a1 a2 a3 b0 b1 b2 b3 _ ?_ ?_ ?_).mono ?_; exact hT2; rw [← ha.out]; exact hwt; rw [← hb.out]; exact hwr; rintro e w3 ⟨d0, d1, d2, d3, hd3, rfl, hb3⟩; have hB3 := hB2.trans (hb3.mono hB2.size); have hr3 := hr2.belowS hb3; obtain ⟨q0, q1, q2, q3⟩ := hr3.w4c; obtain ⟨f0, f1, f2, f3⟩ := hr3.w4f))
      all_goals
        go_wp2_with fail
        have hfin := hr3.set4 d0 d1 d2 d3
        refine bodyPost_ret (v := .agg (wds [d0, d1, d2, d3])) (results_cell_row rfl _ _ w.heap.size 39 _ (0, 0) _ rfl hfin Tryd.underlying39 rfl (by kernel_rfl)) rfl ⟨d0, d1, d2, d3, ?_, rfl, below_set4 hB3 (Nat.le_refl _) _ _ _ _⟩
        show root l = _
        rw [HR.out, ha.out, hb.out]; exact hd3.out
end Go.Proofs.YtgpohndnkecbeaaDoor
namespace Go.Proofs.YtgpohndnkecbeaaDoor
open Go Go.RowKit Go.Proofs.Sc
set_option maxRecDepth 100000 in
set_option maxHeartbeats 1000000 in
theorem rroot_nil (A : Option Addr) (c : Nat) (w : World) : Calls Tryd.prog 82 #[.slice A 0 c] w fun e w' => RootIs [] w e w' := by
  go_enter Tryd.func82, Tryd.ntmps82
  go_wp2_with fail
  refine (rof_lit _ _ (by decide)).mono ?_
  rintro e w1 ⟨d0, d1, d2, d3, hd, rfl, hb1⟩
  have hr1 : Bx w1 w.heap.size 39 (wds [0, 0, 0, 0]) := (Bx.new w 39 _).belowS hb1
  have hB1 := below_new4 _ hb1
  obtain ⟨q0, q1, q2, q3⟩ := hr1.w4c
  obtain ⟨f0, f1, f2, f3⟩ := hr1.w4f
  clear hb1
  go_wp2_with fail
  have hfin := hr1.set4 d0 d1 d2 d3
  refine bodyPost_ret (v := .agg (wds [d0, d1, d2, d3])) (results_cell_row rfl _ _ w.heap.size 39 _ (0, 0) _ rfl hfin Tryd.underlying39 rfl (by kernel_rfl)) rfl ⟨d0, d1, d2, d3, ?_, rfl, below_set4 hB1 (Nat.le_refl _) _ _ _ _⟩
  show root [] = _
  rw [root_nil]; exact hd.out
set_option maxRecDepth 100000 in
set_option maxHeartbeats 1000000 in
theorem rroot_one (A : Option Addr) (c : Nat) (l : Dl) (w : World) (hd : DS w A 1 c l) : Calls Tryd.prog 82 #[.slice A 1 c] w fun e w' => RootIs l w e w' := by
  obtain ⟨g, o, d0, d1, d2, d3, rfl, hg, hw, c0, c1, c2, c3⟩ := hd.dig (k := 0) (by omega)
  rw [Nat.zero_mul, Nat.add_zero] at c0 c1 c2 c3
  have hgl : g < w.heap.size := World.block_lt_of_cell? w _ c0
  have hl := hd.len
  have HR : Hid (root l = [d0, d1, d2, d3]) := by
    match l, hl with
    | [x], _ => show root [x] = _; rw [root_one]; exact hg
  clear hg hl
  go_enter Tryd.func82, Tryd.ntmps82
  go_wp2_with fail
  have hfin := Bx.new w 39 (wds [d0, d1, d2, d3])
  refine bodyPost_ret (v := .agg (wds [d0, d1, d2, d3])) (results_cell_row rfl _ _ w.heap.size 39 _ (0, 0) _ rfl hfin Tryd.underlying39 rfl (by kernel_rfl)) rfl ⟨d0, d1, d2, d3, HR, rfl, (Below.refl _ _).alloc (Nat.le_refl _) _⟩
set_option maxRecDepth 100000 in
set_option maxHeartbeats 1000000 in
theorem rroot_any (N : Nat) : ∀ (l : Dl) (A : Option Addr) (n c : Nat) (w : World), n ≤ N → n ≤ 1000000 → DS w A n c l →
    Calls Tryd.prog 82 #[.slice A n c] w fun e w' => RootIs l w e w' := by
  induction N with
  | zero =>
    intro l A n c w hn _ hd
    obtain rfl : n = 0 := by omega
    obtain rfl : l = [] := List.eq_nil_of_length_eq_zero hd.len
    exact rroot_nil A c w
  | succ N ih =>
    intro l A n c w hn hn6 hd
    by_cases h0 : n = 0
    · subst h0
      obtain rfl : l = [] := List.eq_nil_of_length_eq_zero hd.len
      exact rroot_nil A c w
    by_cases h1 : n = 1
    · subst h1
      exact rroot_one A c l w hd
    · have IH := Lib.hid ih
      clear ih
      have e0 : ((n : Int) == 0) = false := by simp; omega
      have e1 : ((n : Int) == 1) = false := by simp; omega
      go_enter Tryd.func82, Tryd.ntmps82
      go_wp2_with fail
      refine (rhalf_any n _ hn6).mono ?_
      rintro e w1 ⟨rfl, rfl⟩
      have hk1 := half_lt (n := n) (by omega)
      have hk2 := half_pos n
      have HR : Hid (root l = pairD (root (l.take (half n))) (root (l.drop (half n)))) := by
        have hl := hd.len
        show root l = _
        rw [root_two l (by omega), hl]
      obtain ⟨k, hk⟩ : ∃ k, k = half n := ⟨_, rfl⟩
      rw [← hk] at hk1 hk2 HR ⊢
      clear hk
      go_wp2_with fail
      obtain ⟨g, o, rfl, hdr⟩ := hd.drop hk1
      have hdt := hd.take (k := k) (by omega)
      have hcap := hd.cap
      have hs1 := sl42_h (some ⟨g, o, none⟩) n c k (by omega)
      have hs2 := sl42_l g o n c k (by omega) (by omega)
      have hb0 : Below w.heap.size w (w.alloc (.cells #[.int .u32 0, .int .u32 0, .int .u32 0, .int .u32 0] 39)) := (Below.refl _ _).alloc (Nat.le_refl _) _
      have hr0 : Bx (w.alloc (.cells #[.int .u32 0, .int .u32 0, .int .u32 0, .int .u32 0] 39)) w.heap.size 39 (wds [0, 0, 0, 0]) := Bx.new w 39 _
      have hdr0 := hdr.below hb0
      have hdt0 := hdt.below hb0
      have hwt := root_w4 _ hdt.wl
      have hwr := root_w4 _ hdr.wl
      generalize (w.alloc (.cells #[.int .u32 0, .int .u32 0, .int .u32 0, .int .u32 0] 39)) = W at hb0 hr0 hdr0 hdt0 ⊢
      clear hdr hdt hd
      go_region_with (first
        | (go_at_call_of 82 (Value.slice (some ⟨g, o, none⟩) k c); refine (IH.out (l.take k) _ k c _ ?_ ?_ ?_).mono ?_; omega; omega; exact hdt0.drew; rintro e w1 ⟨a0, a1, a2, a3, ha, rfl, hb1⟩; have hB1 := hb0.drew.trans (hb1.mono hb0.size); have hdr1 := hdr0.drew.below hb1; have hr1 := hr0.drew.belowS hb1)
        | (go_at_call_of 82 (Value.slice (some ⟨g, o + k * 4, none⟩) (n - k) (c - k)); refine (IH.out (l.drop k) _ (n - k) (c - k) _ ?_ ?_ ?_).mono ?_; omega; omega; exact hdr1; rintro e w2 ⟨b0, b1, b2, b3, hb, rfl, hb2⟩; have hB2 := hB1.trans (hb2.mono hB1.size); have hr2 := hr1.belowS hb2)
        | (go_at_call 102; refine (rpair_any a0 a1 a2 a3 b0 b1 b2 b3 _ ?_ ?_).mono ?_; rw [← ha.out]; exact hwt; rw [← hb.out]; exact hwr; rintro e w3 ⟨d0, d1, d2, d3, hd3, rfl, hb3⟩; have hB3 := hB2.trans (hb3.mono hB2.size); have hr3 := hr2.belowS hb3; obtain ⟨q0, q1, q2, q3⟩ := hr3.w4c; obtain ⟨f0, f1, f2, f3⟩ := hr3.w4f))
      all_goals
        go_wp2_with fail
        have hfin := hr3.set4 d0 d1 d2 d3
        refine bodyPost_ret (v := .agg (wds [d0, d1, d2, d3])) (results_cell_row rfl _ _ w.heap.size 39 _ (0, 0) _ rfl hfin Tryd.underlying39 rfl (by kernel_rfl)) rfl ⟨d0, d1, d2, d3, ?_, rfl, below_set4 hB3 (Nat.le_refl _) _ _ _ _⟩
        show root l = _
        rw [HR.out, ha.out, hb.out]; exact hd3.out
end Go.Proofs.YtgpohndnkecbeaaDoor
namespace Go.Proofs.YtgpohndnkecbeaaDoor
open Go Go.RowKit Go.Proofs.Sc
def WayIs (p : Dl) (w : World) (e : Ending) (w' : World) : Prop :=
  ∃ v, e = .returned v ∧ w'.ownsRow w.heap.size 39 4 v p.length (vd p) ∧ Below w.heap.size w w'
theorem dig_one (d0 d1 d2 d3 : Nat) : ∀ u ∈ (#[.int .u32 d0, .int .u32 d1, .int .u32 d2, .int .u32 d3] : Array Value).toList, u.oneCell' = true := by
  simp [Value.oneCell']
set_option maxRecDepth 100000 in
set_option maxHeartbeats 1000000 in
theorem mway_any (N : Nat) : ∀ (l : Dl) (A : Option Addr) (n c i : Nat) (w : World), n ≤ N → n ≤ 1000000 → i < n → DS w A n c l → Turns w →
    Calls Tryd.prog 98 #[.slice A n c, .int .i64 (i : Nat)] w fun e w' => WayIs (way l i) w e w' := by
  induction N with
  | zero => intro l A n c i w hn _ hi; omega
  | succ N ih =>
    intro l A n c i w hn hn6 hi hd hT
    have hl := hd.len
    by_cases h1 : n = 1
    · subst h1
      rw [way_one l i (by omega)]
      clear hl
      go_enter Tryd.func98, Tryd.ntmps98
      go_wp2_with fail
      go_ret
      exact ⟨_, rfl, World.ownsRow_nil _ _ _ _, Below.refl _ _⟩
    · have IH := Lib.hid ih
      clear ih
      have e1 : ((n : Int) == 1) = false := by simp; omega
      have hk1 := half_lt (n := n) (by omega)
      have hk2 := half_pos n
      have HL : Hid (i < half n → way l i = way (l.take (half n)) i ++ [root (l.drop (half n))]) := by
        intro h
        have := way_left l i (by omega) (by rw [hl]; exact h)
        rwa [hl] at this
      have HR : Hid (half n ≤ i → way l i = way (l.drop (half n)) (i - half n) ++ [root (l.take (half n))]) := by
        intro h
        have := way_right l i (by omega) (by rw [hl]; exact h)
        rwa [hl] at this
      go_enter Tryd.func98, Tryd.ntmps98
      go_wp2_with fail
      refine (half_any n _ hn6).mono ?_
      rintro e w1 ⟨rfl, rfl⟩
      obtain ⟨k, hk⟩ : ∃ k, k = half n := ⟨_, rfl⟩
      rw [← hk] at hk1 hk2 HR HL ⊢
      clear hk hl
      obtain ⟨g, o, rfl, hdr⟩ := hd.drop hk1
      have hdt := hd.take (k := k) (by omega)
      have hcap := hd.cap
      have hs1 := sl42_h (some ⟨g, o, none⟩) n c k (by omega)
      have hs2 := sl42_l g o n c k (by omega) (by omega)
      have hwt := root_w4 _ hdt.wl
      have hwr := root_w4 _ hdr.wl
      clear hd
      by_cases hik : i < k
      · have hw := HL.out hik
        have HW := Lib.hid hw
        clear hw
        have hcn : n - k ≤ c - k := by omega
        go_wp2_with fail
        go_region_law (first
          | (go_simp; go_at_call_of 98 (Value.slice (some ⟨g, o, none⟩) k c); refine (IH.out (l.take k) _ k c i _ ?_ ?_ ?_ ?_ ?_).mono ?_; omega; omega; omega; exact hdt.drew; exact hT; rintro e w1 ⟨v1, rfl, hown1, hb1⟩; have hB1 : Below w.heap.size w w1 := (Below.refl w.heap.size w).drew.trans hb1; have hdr1 := hdr.drew.below hb1; have hT1 : Turns w1 := hT.belowS hB1)
          | (go_simp; go_at_call_of 80 (Value.slice (some ⟨g, o + k * 4, none⟩) (n - k) (c - k)); refine (mroot_any (n - k) (l.drop k) _ (n - k) (c - k) _ ?_ ?_ ?_ ?_).mono ?_; omega; omega; exact hdr1; exact hT1; rintro e w2 ⟨d0, d1, d2, d3, hb, rfl, hb2⟩; have hB2 := hB1.trans (hb2.mono hB1.size); have hown2 := own_below hown1 hb2; have hsz2 : w.heap.size ≤ (w2.alloc (.cells #[.int .u32 (d0 : Int), .int .u32 (d1 : Int), .int .u32 (d2 : Int), .int .u32 (d3 : Int)] 39)).heap.size := (hB2.alloc hB2.size _).size)
          | (refine step_ap_new 42 39 _ 4 16 Tryd.underlying42 infoDig rfl (by decide) (by decide) rfl _ _ rfl w.heap.size v1 (way (l.take k) i).length _ rfl (hown2.alloc _) w2.heap.size 1 1 #[.int .u32 (d0 : Int), .int .u32 (d1 : Int), .int .u32 (d2 : Int), .int .u32 (d3 : Int)] rfl (Bx.new w2 39 _) rfl (dig_one d0 d1 d2 d3) ?_ hsz2 ?_; (next => have := way_len (l.take k) i; rw [hdt.len] at this; omega); intro v3 w3 hown3 hg3 hat3))
        all_goals
          go_wp2_with fail
          go_ret
          refine ⟨v3, rfl, ?_, (hB2.alloc hB2.size _).grown hg3 hsz2 (own_base hown2)⟩
          rw [HW.out, List.length_append, List.length_singleton, vd_app, hb.out, vd_one]
          exact hown3
      · have hw := HR.out (by omega)
        have HW := Lib.hid hw
        clear hw
        have hcn : n - k ≤ c - k := by omega
        have hki : (k : Int) ≤ (i : Int) := by omega
        obtain ⟨j, hj⟩ : ∃ j : Nat, (i : Int) - (k : Int) = (j : Int) := ⟨i - k, by omega⟩
        have hjk : j = i - k := by omega
        rw [← hjk] at HW
        have hjn : j < n - k := by omega
        have hwj : IntKind.i64.wrap (j : Int) = (j : Int) := IntWalk.i64_in _ (by omega)
        clear hjk
        go_wp2_with fail
        go_region_law (first
          | (go_simp; go_at_call_of 98 (Value.slice (some ⟨g, o + k * 4, none⟩) (n - k) (c - k)); refine (IH.out (l.drop k) _ (n - k) (c - k) j _ ?_ ?_ ?_ ?_ ?_).mono ?_; omega; omega; exact hjn; exact hdr.drew; exact hT; rintro e w1 ⟨v1, rfl, hown1, hb1⟩; have hB1 : Below w.heap.size w w1 := (Below.refl w.heap.size w).drew.trans hb1; have hdt1 := hdt.drew.below hb1; have hT1 : Turns w1 := hT.belowS hB1)
          | (go_simp; go_at_call_of 80 (Value.slice (some ⟨g, o, none⟩) k c); refine (mroot_any k (l.take k) _ k c _ ?_ ?_ ?_ ?_).mono ?_; omega; omega; exact hdt1; exact hT1; rintro e w2 ⟨d0, d1, d2, d3, hb, rfl, hb2⟩; have hB2 := hB1.trans (hb2.mono hB1.size); have hown2 := own_below hown1 hb2; have hsz2 : w.heap.size ≤ (w2.alloc (.cells #[.int .u32 (d0 : Int), .int .u32 (d1 : Int), .int .u32 (d2 : Int), .int .u32 (d3 : Int)] 39)).heap.size := (hB2.alloc hB2.size _).size)
          | (refine step_ap_new 42 39 _ 4 16 Tryd.underlying42 infoDig rfl (by decide) (by decide) rfl _ _ rfl w.heap.size v1 (way (l.drop k) j).length _ rfl (hown2.alloc _) w2.heap.size 1 1 #[.int .u32 (d0 : Int), .int .u32 (d1 : Int), .int .u32 (d2 : Int), .int .u32 (d3 : Int)] rfl (Bx.new w2 39 _) rfl (dig_one d0 d1 d2 d3) ?_ hsz2 ?_; (next => have := way_len (l.drop k) j; rw [hdr.len] at this; omega); intro v3 w3 hown3 hg3 hat3))
        all_goals
          go_wp2_with fail
          go_ret
          refine ⟨v3, rfl, ?_, (hB2.alloc hB2.size _).grown hg3 hsz2 (own_base hown2)⟩
          rw [HW.out, List.length_append, List.length_singleton, vd_app, hb.out, vd_one]
          exact hown3
set_option maxRecDepth 100000 in
set_option maxHeartbeats 400000 in
theorem mprove_any (l : Dl) (A : Option Addr) (n c i : Nat) (w : World) (hn6 : n ≤ 1000000) (hi : i < n) (hd : DS w A n c l) (hT : Turns w) :
    Calls Tryd.prog 68 #[.slice A n c, .int .i64 (i : Nat)] w fun e w' => ∃ v, e = .returned (.tuple #[v, .int .i64 0]) ∧ w'.ownsRow w.heap.size 39 4 v (way l i).length (vd (way l i)) ∧ Below w.heap.size w w' := by
  have e1 : decide ((i : Int) < 0) = false := by simp
  have e2 : decide (n ≤ i) = false := by simp; omega
  have e3 : (i : Int) < (n : Int) := by omega
  go_enter Tryd.func68, Tryd.ntmps68
  go_wp2_with fail
  refine (mway_any n l A n c i w (Nat.le_refl _) hn6 hi hd hT).mono ?_
  rintro e w1 ⟨v, rfl, hown, hb⟩
  go_wp2_with fail
  go_ret2
  exact ⟨v, rfl, hown, hb⟩
set_option maxRecDepth 100000 in
set_option maxHeartbeats 1000000 in
theorem rway_any (N : Nat) : ∀ (l : Dl) (A : Option Addr) (n c i : Nat) (w : World), n ≤ N → n ≤ 1000000 → i < n → DS w A n c l →
    Calls Tryd.prog 103 #[.slice A n c, .int .i64 (i : Nat)] w fun e w' => WayIs (way l i) w e w' := by
  induction N with
  | zero => intro l A n c i w hn _ hi; omega
  | succ N ih =>
    intro l A n c i w hn hn6 hi hd
    have hl := hd.len
    by_cases h1 : n = 1
    · subst h1
      rw [way_one l i (by omega)]
      clear hl
      go_enter Tryd.func103, Tryd.ntmps103
      go_wp2_with fail
      go_ret
      exact ⟨_, rfl, World.ownsRow_nil _ _ _ _, Below.refl _ _⟩
    · have IH := Lib.hid ih
      clear ih
      have e1 : ((n : Int) == 1) = false := by simp; omega
      have hk1 := half_lt (n := n) (by omega)
      have hk2 := half_pos n
      have HL : Hid (i < half n → way l i = way (l.take (half n)) i ++ [root (l.drop (half n))]) := by
        intro h
        have := way_left l i (by omega) (by rw [hl]; exact h)
        rwa [hl] at this
      have HR : Hid (half n ≤ i → way l i = way (l.drop (half n)) (i - half n) ++ [root (l.take (half n))]) := by
        intro h
        have := way_right l i (by omega) (by rw [hl]; exact h)
        rwa [hl] at this
      go_enter Tryd.func103, Tryd.ntmps103
      go_wp2_with fail
      refine (rhalf_any n _ hn6).mono ?_
      rintro e w1 ⟨rfl, rfl⟩
      obtain ⟨k, hk⟩ : ∃ k, k = half n := ⟨_, rfl⟩
      rw [← hk] at hk1 hk2 HR HL ⊢
      clear hk hl
      obtain ⟨g, o, rfl, hdr⟩ := hd.drop hk1
      have hdt := hd.take (k := k) (by omega)
      have hcap := hd.cap
      have hs1 := sl42_h (some ⟨g, o, none⟩) n c k (by omega)
      have hs2 := sl42_l g o n c k (by omega) (by omega)
      have hwt := root_w4 _ hdt.wl
      have hwr := root_w4 _ hdr.wl
      clear hd
      by_cases hik : i < k
      · have hw := HL.out hik
        have HW := Lib.hid hw
        clear hw
        have hcn : n - k ≤ c - k := by omega
        go_wp2_with fail
        go_region_law (first
          | (go_simp; go_at_call_of 103 (Value.slice (some ⟨g, o, none⟩) k c); refine (IH.out (l.take k) _ k c i _ ?_ ?_ ?_ ?_).mono ?_; omega; omega; omega; exact hdt.drew; rintro e w1 ⟨v1, rfl, hown1, hb1⟩; have hB1 : Below w.heap.size w w1 := (Below.refl w.heap.size w).drew.trans hb1; have hdr1 := hdr.drew.below hb1)
          | (go_simp; go_at_call_of 82 (Value.slice (some ⟨g, o + k * 4, none⟩) (n - k) (c - k)); refine (rroot_any (n - k) (l.drop k) _ (n - k) (c - k) _ ?_ ?_ ?_).mono ?_; omega; omega; exact hdr1; rintro e w2 ⟨d0, d1, d2, d3, hb, rfl, hb2⟩; have hB2 := hB1.trans (hb2.mono hB1.size); have hown2 := own_below hown1 hb2; have hsz2 : w.heap.size ≤ (w2.alloc (.cells #[.int .u32 (d0 : Int), .int .u32 (d1 : Int), .int .u32 (d2 : Int), .int .u32 (d3 : Int)] 39)).heap.size := (hB2.alloc hB2.size _).size)
          | (refine step_ap_new 42 39 _ 4 16 Tryd.underlying42 infoDig rfl (by decide) (by decide) rfl _ _ rfl w.heap.size v1 (way (l.take k) i).length _ rfl (hown2.alloc _) w2.heap.size 1 1 #[.int .u32 (d0 : Int), .int .u32 (d1 : Int), .int .u32 (d2 : Int), .int .u32 (d3 : Int)] rfl (Bx.new w2 39 _) rfl (dig_one d0 d1 d2 d3) ?_ hsz2 ?_; (next => have := way_len (l.take k) i; rw [hdt.len] at this; omega); intro v3 w3 hown3 hg3 hat3))
        all_goals
          go_wp2_with fail
          go_ret
          refine ⟨v3, rfl, ?_, (hB2.alloc hB2.size _).grown hg3 hsz2 (own_base hown2)⟩
          rw [HW.out, List.length_append, List.length_singleton, vd_app, hb.out, vd_one]
          exact hown3
      · have hw := HR.out (by omega)
        have HW := Lib.hid hw
        clear hw
        have hcn : n - k ≤ c - k := by omega
        have hki : (k : Int) ≤ (i : Int) := by omega
        obtain ⟨j, hj⟩ : ∃ j : Nat, (i : Int) - (k : Int) = (j : Int) := ⟨i - k, by omega⟩
        have hjk : j = i - k := by omega
        rw [← hjk] at HW
        have hjn : j < n - k := by omega
        have hwj : IntKind.i64.wrap (j : Int) = (j : Int) := IntWalk.i64_in _ (by omega)
        clear hjk
        go_wp2_with fail
        go_region_law (first
          | (go_simp; go_at_call_of 103 (Value.slice (some ⟨g, o + k * 4, none⟩) (n - k) (c - k)); refine (IH.out (l.drop k) _ (n - k) (c - k) j _ ?_ ?_ ?_ ?_).mono ?_; omega; omega; exact hjn; exact hdr.drew; rintro e w1 ⟨v1, rfl, hown1, hb1⟩; have hB1 : Below w.heap.size w w1 := (Below.refl w.heap.size w).drew.trans hb1; have hdt1 := hdt.drew.below hb1)
          | (go_simp; go_at_call_of 82 (Value.slice (some ⟨g, o, none⟩) k c); refine (rroot_any k (l.take k) _ k c _ ?_ ?_ ?_).mono ?_; omega; omega; exact hdt1; rintro e w2 ⟨d0, d1, d2, d3, hb, rfl, hb2⟩; have hB2 := hB1.trans (hb2.mono hB1.size); have hown2 := own_below hown1 hb2; have hsz2 : w.heap.size ≤ (w2.alloc (.cells #[.int .u32 (d0 : Int), .int .u32 (d1 : Int), .int .u32 (d2 : Int), .int .u32 (d3 : Int)] 39)).heap.size := (hB2.alloc hB2.size _).size)
          | (refine step_ap_new 42 39 _ 4 16 Tryd.underlying42 infoDig rfl (by decide) (by decide) rfl _ _ rfl w.heap.size v1 (way (l.drop k) j).length _ rfl (hown2.alloc _) w2.heap.size 1 1 #[.int .u32 (d0 : Int), .int .u32 (d1 : Int), .int .u32 (d2 : Int), .int .u32 (d3 : Int)] rfl (Bx.new w2 39 _) rfl (dig_one d0 d1 d2 d3) ?_ hsz2 ?_; (next => have := way_len (l.drop k) j; rw [hdr.len] at this; omega); intro v3 w3 hown3 hg3 hat3))
        all_goals
          go_wp2_with fail
          go_ret
          refine ⟨v3, rfl, ?_, (hB2.alloc hB2.size _).grown hg3 hsz2 (own_base hown2)⟩
          rw [HW.out, List.length_append, List.length_singleton, vd_app, hb.out, vd_one]
          exact hown3
set_option maxRecDepth 100000 in
set_option maxHeartbeats 400000 in
theorem rprove_any (l : Dl) (A : Option Addr) (n c i : Nat) (w : World) (hn6 : n ≤ 1000000) (hi : i < n) (hd : DS w A n c l) :
    Calls Tryd.prog 84 #[.slice A n c, .int .i64 (i : Nat)] w fun e w' => ∃ v, e = .returned (.tuple #[v, .int .i64 0]) ∧ w'.ownsRow w.heap.size 39 4 v (way l i).length (vd (way l i)) ∧ Below w.heap.size w w' := by
  have e1 : decide ((i : Int) < 0) = false := by simp
  have e2 : decide (n ≤ i) = false := by simp; omega
  have e3 : (i : Int) < (n : Int) := by omega
  go_enter Tryd.func84, Tryd.ntmps84
  go_wp2_with fail
  refine (rway_any n l A n c i w (Nat.le_refl _) hn6 hi hd).mono ?_
  rintro e w1 ⟨v, rfl, hown, hb⟩
  go_wp2_with fail
  go_ret2
  exact ⟨v, rfl, hown, hb⟩
end Go.Proofs.YtgpohndnkecbeaaDoor
