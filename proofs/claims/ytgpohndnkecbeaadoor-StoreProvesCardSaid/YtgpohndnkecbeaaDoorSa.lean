/- Contracts: digest.Pair, ref03.Pair, merkle.half, ref04.Half. -/
import Derived.Test.YtgpohndnkecbeaaDoorRh
import Derived.Test.YtgpohndnkecbeaaDoorPg
import Derived.ArgAppend
import Derived.Deep.RegionHeld3
import Derived.Deep.DeepCutAuto
namespace Go.Proofs.YtgpohndnkecbeaaDoor
open Go Go.RowKit Go.Proofs.Sc
set_option maxRecDepth 100000 in
set_option maxHeartbeats 400000 in
theorem half_any (n : Nat) (w : World) (hn : n ≤ 1000000) :
    Calls Tryd.prog 99 #[.int .i64 (n : Nat)] w fun e w' => e = .returned (.int .i64 (half n : Nat)) ∧ w = w' := by
  go_enter Tryd.func99, Tryd.ntmps99
  go_wp2_with fail
  go_loop [3] (fun i => ∃ k f : Nat, i = .int .i64 k ∧ 0 < k ∧ k ≤ 1000000 ∧ n ≤ k + f ∧ half n = hgo f k n) (fun i => n - (intOf i).toNat)
  case atStart => exact ⟨1, n, rfl, by omega, by omega, by omega, rfl⟩
  case round =>
    obtain ⟨k, f, rfl, h0, hk, hf, hh⟩ := hrel
    by_cases hlt : 2 * k < n
    · obtain ⟨f, rfl⟩ : ∃ g, f = g + 1 := ⟨f - 1, by omega⟩
      rw [hgo, if_pos hlt] at hh
      have HH := Lib.hid hh
      clear hh
      have hd : decide (2 * (k : Int) < (n : Int)) = true := by simp; omega
      go_wp2_with fail
      exact ⟨⟨2 * k, f, by go_num, by omega, by omega, by omega, HH.out⟩, by simp [intOf]; omega⟩
    · rw [hgo_stop f k n hlt] at hh
      have HH := Lib.hid hh
      clear hh
      have hd : decide (2 * (k : Int) < (n : Int)) = false := by simp; omega
      go_wp2_with fail
      go_ret
      exact ⟨by rw [HH.out]; rfl, rfl⟩
set_option maxRecDepth 100000 in
set_option maxHeartbeats 400000 in
theorem rhalf_any (n : Nat) (w : World) (hn : n ≤ 1000000) :
    Calls Tryd.prog 83 #[.int .i64 (n : Nat)] w fun e w' => e = .returned (.int .i64 (half n : Nat)) ∧ w = w' := by
  go_enter Tryd.func83, Tryd.ntmps83
  go_wp2_with fail
  go_loop [3] (fun i => ∃ k f : Nat, i = .int .i64 k ∧ 0 < k ∧ k ≤ 1000000 ∧ n ≤ k + f ∧ half n = hgo f k n) (fun i => n - (intOf i).toNat)
  case atStart => exact ⟨1, n, rfl, by omega, by omega, by omega, rfl⟩
  case round =>
    obtain ⟨k, f, rfl, h0, hk, hf, hh⟩ := hrel
    by_cases hlt : 2 * k < n
    · obtain ⟨f, rfl⟩ : ∃ g, f = g + 1 := ⟨f - 1, by omega⟩
      rw [hgo, if_pos hlt] at hh
      have HH := Lib.hid hh
      clear hh
      have hd : decide (2 * (k : Int) < (n : Int)) = true := by simp; omega
      go_wp2_with fail
      exact ⟨⟨2 * k, f, by go_num, by omega, by omega, by omega, HH.out⟩, by simp [intOf]; omega⟩
    · rw [hgo_stop f k n hlt] at hh
      have HH := Lib.hid hh
      clear hh
      have hd : decide (2 * (k : Int) < (n : Int)) = false := by simp; omega
      go_wp2_with fail
      go_ret
      exact ⟨by rw [HH.out]; rfl, rfl⟩
theorem pairD_blk (a0 a1 a2 a3 b0 b1 b2 b3 : Nat) : pairD [a0, a1, a2, a3] [b0, b1, b2, b3] = (blk (blk [2, 0, 0, 0, 0, 0, 0, 0] [a0, a1, a2, a3]) [b0, b1, b2, b3]).take 4 := by
  show (takeB _ [a0, a1, a2, a3, b0, b1, b2, b3]).take 4 = _
  rw [takeB, takeB, takeB]
  intro a b c d l e; cases e
/-- Two arguments and a result, laid. -/
theorem three_new (w : World) (a0 a1 a2 a3 b0 b1 b2 b3 : Nat) :
    Bx (((w.alloc (.cells #[.int .u32 a0, .int .u32 a1, .int .u32 a2, .int .u32 a3] 39)).alloc (.cells #[.int .u32 b0, .int .u32 b1, .int .u32 b2, .int .u32 b3] 39)).alloc (.cells #[.int .u32 0, .int .u32 0, .int .u32 0, .int .u32 0] 39)) w.heap.size 39 (wds [a0, a1, a2, a3]) ∧
    Bx (((w.alloc (.cells #[.int .u32 a0, .int .u32 a1, .int .u32 a2, .int .u32 a3] 39)).alloc (.cells #[.int .u32 b0, .int .u32 b1, .int .u32 b2, .int .u32 b3] 39)).alloc (.cells #[.int .u32 0, .int .u32 0, .int .u32 0, .int .u32 0] 39)) (w.heap.size + 1) 39 (wds [b0, b1, b2, b3]) ∧
    Bx (((w.alloc (.cells #[.int .u32 a0, .int .u32 a1, .int .u32 a2, .int .u32 a3] 39)).alloc (.cells #[.int .u32 b0, .int .u32 b1, .int .u32 b2, .int .u32 b3] 39)).alloc (.cells #[.int .u32 0, .int .u32 0, .int .u32 0, .int .u32 0] 39)) (w.heap.size + 1 + 1) 39 (wds [0, 0, 0, 0]) ∧
    Below w.heap.size w (((w.alloc (.cells #[.int .u32 a0, .int .u32 a1, .int .u32 a2, .int .u32 a3] 39)).alloc (.cells #[.int .u32 b0, .int .u32 b1, .int .u32 b2, .int .u32 b3] 39)).alloc (.cells #[.int .u32 0, .int .u32 0, .int .u32 0, .int .u32 0] 39)) := by
  refine ⟨((Bx.new w 39 (wds [a0, a1, a2, a3])).alloc _).alloc _, ?_, ?_, (((Below.refl _ _).alloc (Nat.le_refl _) _).alloc (by simp) _).alloc (by simp; omega) _⟩
  · have := (Bx.new (w.alloc (.cells #[.int .u32 a0, .int .u32 a1, .int .u32 a2, .int .u32 a3] 39)) 39 (wds [b0, b1, b2, b3])).alloc (.cells #[.int .u32 0, .int .u32 0, .int .u32 0, .int .u32 0] 39)
    rw [World.size_alloc] at this
    exact this
  · have := Bx.new ((w.alloc (.cells #[.int .u32 a0, .int .u32 a1, .int .u32 a2, .int .u32 a3] 39)).alloc (.cells #[.int .u32 b0, .int .u32 b1, .int .u32 b2, .int .u32 b3] 39)) 39 (wds [0, 0, 0, 0])
    rw [World.size_alloc, World.size_alloc] at this
    exact this
def PairCut (w : World) (A B : List Nat) (v : Value) (wx : World) : Prop :=
  ∃ g y0 y1 y2 y3 y4 y5 y6 y7 : Nat, v = .pointer (some ⟨g, 0, none⟩) ∧ blk (blk [2, 0, 0, 0, 0, 0, 0, 0] A) B = [y0, y1, y2, y3, y4, y5, y6, y7] ∧ Bx wx g 113 (wds [y0, y1, y2, y3, y4, y5, y6, y7]) ∧ Bx wx (w.heap.size + 1 + 1) 39 (wds [0, 0, 0, 0]) ∧ Below w.heap.size w wx
set_option maxRecDepth 100000 in
set_option maxHeartbeats 1000000 in
theorem rpair_any (a0 a1 a2 a3 b0 b1 b2 b3 : Nat) (w : World) (ha : W4 [a0, a1, a2, a3]) (hb : W4 [b0, b1, b2, b3]) :
    Calls Tryd.prog 102 #[.agg #[.int .u32 a0, .int .u32 a1, .int .u32 a2, .int .u32 a3], .agg #[.int .u32 b0, .int .u32 b1, .int .u32 b2, .int .u32 b3]] w fun e w' =>
      ∃ d0 d1 d2 d3 : Nat, Hid (pairD [a0, a1, a2, a3] [b0, b1, b2, b3] = [d0, d1, d2, d3]) ∧ e = .returned (.agg #[.int .u32 d0, .int .u32 d1, .int .u32 d2, .int .u32 d3]) ∧ Below w.heap.size w w' := by
  go_enter Tryd.func102, Tryd.ntmps102
  go_wp2_with fail
  have h2 : W8 [2, 0, 0, 0, 0, 0, 0, 0] := ⟨rfl, by simp⟩
  obtain ⟨haB, hbB, hrB, hBW⟩ := three_new w a0 a1 a2 a3 b0 b1 b2 b3
  generalize (((w.alloc (.cells #[.int .u32 a0, .int .u32 a1, .int .u32 a2, .int .u32 a3] 39)).alloc (.cells #[.int .u32 b0, .int .u32 b1, .int .u32 b2, .int .u32 b3] 39)).alloc (.cells #[.int .u32 0, .int .u32 0, .int .u32 0, .int .u32 0] 39)) = W at haB hbB hrB hBW ⊢
  obtain ⟨m0, m1, m2, m3⟩ := haB.w4c
  obtain ⟨n0, n1, n2, n3⟩ := hbB.w4c
  obtain ⟨r0, r1, r2, r3⟩ := hrB.w4c
  have s0 := haB.lt
  have s1 := hbB.lt
  have s2 := hrB.lt
  have z0 : W.heap.size ≠ w.heap.size := by omega
  have z1 : W.heap.size ≠ w.heap.size + 1 := by omega
  go_cut [5] (fun s5 wx => PairCut w [a0, a1, a2, a3] [b0, b1, b2, b3] s5 wx)
  case first =>
    go_region_held3 (fun X : World => X.cell? ⟨w.heap.size, 0, none⟩ = some (.int .u32 (a0 : Nat)) ∧ X.cell? ⟨w.heap.size, 1, none⟩ = some (.int .u32 (a1 : Nat)) ∧ X.cell? ⟨w.heap.size, 2, none⟩ = some (.int .u32 (a2 : Nat)) ∧ X.cell? ⟨w.heap.size, 3, none⟩ = some (.int .u32 (a3 : Nat)) ∧ X.cell? ⟨w.heap.size + 1, 0, none⟩ = some (.int .u32 (b0 : Nat)) ∧ X.cell? ⟨w.heap.size + 1, 1, none⟩ = some (.int .u32 (b1 : Nat)) ∧ X.cell? ⟨w.heap.size + 1, 2, none⟩ = some (.int .u32 (b2 : Nat)) ∧ X.cell? ⟨w.heap.size + 1, 3, none⟩ = some (.int .u32 (b3 : Nat))) (go_keep) (first
      | (go_at_call_of 86 (Value.int .u32 (a0 : Int)); refine (rtake_any 2 0 0 0 0 0 0 0 a0 a1 a2 a3 _ h2 ha).mono ?_; rintro e w1 ⟨x0, x1, x2, x3, x4, x5, x6, x7, hx, rfl, hb1⟩; first
        | (have haB1 := haB.drew.belowS hb1; obtain ⟨p0, p1, p2, p3⟩ := haB1.w4c; have hbB1 := hbB.drew.belowS hb1; have hrB1 := hrB.drew.belowS hb1; have hB1 := hBW.drew.trans (hb1.mono hBW.size); obtain ⟨k0, k1, k2, k3⟩ := hbB1.w4c; have s3 := hbB1.lt; have s4 := hrB1.lt; have z2 : w1.heap.size ≠ w.heap.size := (by omega); have z3 : w1.heap.size ≠ w.heap.size + 1 := (by omega))
        | (have haB1 := (haB.drew.alloc _).belowS hb1; obtain ⟨p0, p1, p2, p3⟩ := haB1.w4c; have hbB1 := (hbB.drew.alloc _).belowS hb1; have hrB1 := (hrB.drew.alloc _).belowS hb1; have hB1 := (hBW.drew.alloc hBW.size _).trans (hb1.mono (hBW.alloc hBW.size _).size); have hat1 : Bx w1 W.heap.size 113 (wds [0, 0, 0, 0, 0, 0, 0, 0]) := (Bx.new W.drew 113 (wds [0, 0, 0, 0, 0, 0, 0, 0])).belowS hb1; obtain ⟨k0, k1, k2, k3⟩ := hbB1.w4c; have s3 := hbB1.lt; have s4 := hrB1.lt; have z2 : w1.heap.size ≠ w.heap.size := (by omega); have z3 : w1.heap.size ≠ w.heap.size + 1 := (by omega)))
      | (go_at_call_of 86 (Value.int .u32 (b0 : Int)); refine (rtake_any x0 x1 x2 x3 x4 x5 x6 x7 b0 b1 b2 b3 _ ?_ hb).mono ?_; rw [← hx.out]; exact blk_w8 h2 ha.2; rintro e w2 ⟨y0, y1, y2, y3, y4, y5, y6, y7, hy, rfl, hb2⟩; first
        | (have haB2 := (haB1.alloc _).belowS hb2; have hbB2 := (hbB1.alloc _).belowS hb2; obtain ⟨p4, p5, p6, p7⟩ := haB2.w4c; obtain ⟨k4, k5, k6, k7⟩ := hbB2.w4c; have hrB2 := (hrB1.alloc _).belowS hb2; have hB2 := (hB1.alloc hB1.size _).trans (hb2.mono (hB1.alloc hB1.size _).size); have hat2 : Bx w2 w1.heap.size 113 (wds [0, 0, 0, 0, 0, 0, 0, 0]) := (Bx.new w1 113 (wds [0, 0, 0, 0, 0, 0, 0, 0])).belowS hb2; obtain ⟨q0, q1, q2, q3⟩ := hrB2.w4c; have s5 := hrB2.lt; have z4 : w2.heap.size ≠ w.heap.size := (by omega); have z5 : w2.heap.size ≠ w.heap.size + 1 := (by omega); obtain ⟨f0, f1, f2, f3⟩ := hrB2.w4f; obtain ⟨c0, c1, c2, c3, c4, c5, c6, c7⟩ := hat2.w8c; obtain ⟨g0, g1, g2, g3, g4, g5, g6, g7⟩ := hat2.w8f)
        | (have haB2 := haB1.belowS hb2; have hbB2 := hbB1.belowS hb2; obtain ⟨p4, p5, p6, p7⟩ := haB2.w4c; obtain ⟨k4, k5, k6, k7⟩ := hbB2.w4c; have hrB2 := hrB1.belowS hb2; have hB2 := hB1.trans (hb2.mono hB1.size); have hat2 := hat1.belowS hb2; obtain ⟨q0, q1, q2, q3⟩ := hrB2.w4c; have s5 := hrB2.lt; have z4 : w2.heap.size ≠ w.heap.size := (by omega); have z5 : w2.heap.size ≠ w.heap.size + 1 := (by omega); obtain ⟨f0, f1, f2, f3⟩ := hrB2.w4f; obtain ⟨c0, c1, c2, c3, c4, c5, c6, c7⟩ := hat2.w8c; obtain ⟨g0, g1, g2, g3, g4, g5, g6, g7⟩ := hat2.w8f)
        | (have haB2 := haB1.belowS hb2; have hbB2 := hbB1.belowS hb2; obtain ⟨p4, p5, p6, p7⟩ := haB2.w4c; obtain ⟨k4, k5, k6, k7⟩ := hbB2.w4c; have hrB2 := hrB1.belowS hb2; have hB2 := hB1.trans (hb2.mono hB1.size); obtain ⟨q0, q1, q2, q3⟩ := hrB2.w4c; have s5 := hrB2.lt; have z4 : w2.heap.size ≠ w.heap.size := (by omega); have z5 : w2.heap.size ≠ w.heap.size + 1 := (by omega); obtain ⟨f0, f1, f2, f3⟩ := hrB2.w4f)))
    all_goals
      go_wp2_with fail
      go_meet
      case rel =>
        have hy' : blk (blk [2, 0, 0, 0, 0, 0, 0, 0] [a0, a1, a2, a3]) [b0, b1, b2, b3] = [y0, y1, y2, y3, y4, y5, y6, y7] := by rw [hx.out]; exact hy.out
        first
          | exact ⟨_, y0, y1, y2, y3, y4, y5, y6, y7, rfl, hy', hat2.set8 _ _ _ _ _ _ _ _, hrB2.far8 (by omega) _ _ _ _ _ _ _ _, below_set8 hB2 (by omega) _ _ _ _ _ _ _ _⟩
          | exact ⟨_, y0, y1, y2, y3, y4, y5, y6, y7, rfl, hy', Bx.new w2 113 _, hrB2.alloc _, hB2.alloc hB2.size _⟩
  case rest =>
    obtain ⟨g, y0, y1, y2, y3, y4, y5, y6, y7, rfl, hy, hg, hr, hB⟩ := hcut
    obtain ⟨c0, c1, c2, c3, -⟩ := hg.w8c
    obtain ⟨q0, q1, q2, q3⟩ := hr.w4c
    obtain ⟨f0, f1, f2, f3⟩ := hr.w4f
    have HY := Lib.hid hy
    clear hy
    go_wp2_with fail
    have hfin := hr.set4 y0 y1 y2 y3
    refine bodyPost_ret (v := .agg (wds [y0, y1, y2, y3])) (results_cell_row rfl _ _ (w.heap.size + 1 + 1) 39 _ (0, 0) _ rfl hfin Tryd.underlying39 rfl (by kernel_rfl)) rfl ⟨y0, y1, y2, y3, ?_, rfl, ?_⟩
    · show pairD _ _ = _
      rw [pairD_blk, HY.out]; rfl
    · exact below_set4 hB (by omega) _ _ _ _
set_option maxRecDepth 100000 in
set_option maxHeartbeats 1000000 in
theorem pair_any (a0 a1 a2 a3 b0 b1 b2 b3 : Nat) (w : World) (hT : Turns w) (ha : W4 [a0, a1, a2, a3]) (hb : W4 [b0, b1, b2, b3]) :
    Calls Tryd.prog 101 #[.agg #[.int .u32 a0, .int .u32 a1, .int .u32 a2, .int .u32 a3], .agg #[.int .u32 b0, .int .u32 b1, .int .u32 b2, .int .u32 b3]] w fun e w' =>
      ∃ d0 d1 d2 d3 : Nat, Hid (pairD [a0, a1, a2, a3] [b0, b1, b2, b3] = [d0, d1, d2, d3]) ∧ e = .returned (.agg #[.int .u32 d0, .int .u32 d1, .int .u32 d2, .int .u32 d3]) ∧ Below w.heap.size w w' := by
  go_enter Tryd.func101, Tryd.ntmps101
  go_wp2_with fail
  obtain ⟨haB, hbB, hrB, hBW⟩ := three_new w a0 a1 a2 a3 b0 b1 b2 b3
  generalize (((w.alloc (.cells #[.int .u32 a0, .int .u32 a1, .int .u32 a2, .int .u32 a3] 39)).alloc (.cells #[.int .u32 b0, .int .u32 b1, .int .u32 b2, .int .u32 b3] 39)).alloc (.cells #[.int .u32 0, .int .u32 0, .int .u32 0, .int .u32 0] 39)) = W at haB hbB hrB hBW ⊢
  have hTW : Turns W := hT.belowS hBW
  go_still_tail 2, (by kernel_rfl)
  change wpList _ _ _ _ _ W.drew
  have haB' := haB.drew
  have hbB' := hbB.drew
  have hrB' := hrB.drew
  have hBW' := hBW.drew
  have hTW' : Turns W.drew := hTW
  generalize W.drew = X at haB' hbB' hrB' hBW' hTW' ⊢
  obtain ⟨i, hi, hz0, hz1, hz2⟩ := info_parts infoWord
  have holds : ∀ b, some (⟨w.heap.size, 0, none⟩ : Addr) = some b → ∀ j u, (vw [a0, a1, a2, a3])[j]? = some u → X.cell? (b.add j) = some u := by
    intro b hb j u hu
    cases hb
    rw [add_at, Nat.zero_add, haB'.cell, ← hu]
    simp [wds, vw]
  have hnews : ∀ j u, (vw [b0, b1, b2, b3])[j]? = some u → X.cell? ((⟨w.heap.size + 1, 0, none⟩ : Addr).add j) = some u := by
    intro j u hu
    rw [add_at, Nat.zero_add, hbB'.cell, ← hu]
    simp [wds, vw]
  go_wp2_with (first | (at_builtin; refine wpList_append_grows X rfl _ _ 85 rfl 37 i (.int .u32 0) 1 4 Tryd.underlying85 hi hz0 hz1 hz2 rfl (by decide) (some ⟨w.heap.size, 0, none⟩) 4 4 (vw [a0, a1, a2, a3]) rfl (fun h => nomatch h) rfl holds ⟨w.heap.size + 1, 0, none⟩ 4 4 (vw [b0, b1, b2, b3]) rfl rfl hnews (vw_one _) (by decide) (by decide) (by decide) ?_; intro v1 w1 hown1 hg1))
  obtain ⟨A1, c1, rfl, hc1, hc2⟩ := own_slice_cap hown1
  have hr1 : Rs w1 A1 8 1 (vw [a0, a1, a2, a3, b0, b1, b2, b3]) := by
    have := Rs.of_own hown1
    rw [← vw_app] at this
    exact this
  have hb1 : Below X.heap.size X w1 := (Below.refl _ _).grown hg1 (Nat.le_refl _) (by simp)
  have hx : ∀ x ∈ [a0, a1, a2, a3, b0, b1, b2, b3], x < 4294967296 := by
    intro x hx
    rcases List.mem_append.1 (show x ∈ [a0, a1, a2, a3] ++ [b0, b1, b2, b3] from hx) with h | h
    · exact ha.2 x h
    · exact hb.2 x h
  clear hown1 hg1 holds hnews haB' hbB' haB hbB
  refine (take_lit 2 A1 8 c1 [a0, a1, a2, a3, b0, b1, b2, b3] w1 (hTW'.belowS hb1) (by decide) hr1 hx (by decide) hc1 hc2).mono ?_
  rintro e w2 ⟨d0, d1, d2, d3, hd, rfl, hb2⟩
  have hB1 := hBW'.trans (hb1.mono hBW'.size)
  have hB2 := hB1.trans (hb2.mono hB1.size)
  have hr2 := (hrB'.belowS hb1).belowS hb2
  obtain ⟨q0, q1, q2, q3⟩ := hr2.w4c
  obtain ⟨f0, f1, f2, f3⟩ := hr2.w4f
  go_wp2_with fail
  have hfin := hr2.set4 d0 d1 d2 d3
  refine bodyPost_ret (v := .agg (wds [d0, d1, d2, d3])) (results_cell_row rfl _ _ (w.heap.size + 1 + 1) 39 _ (0, 0) _ rfl hfin Tryd.underlying39 rfl (by kernel_rfl)) rfl ⟨d0, d1, d2, d3, hd, rfl, ?_⟩
  exact below_set4 hB2 (by omega) _ _ _ _
end Go.Proofs.YtgpohndnkecbeaaDoor
