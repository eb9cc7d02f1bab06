/- Contract: digest.Mix. -/
import Derived.Test.YtgpohndnkecbeaaDoorDb
import Derived.RegionTactic
import Derived.BigRegion
import Derived.Deep.QuietTactic
import Derived.BigQuiet
import Derived.Laws.Rows
import Derived.Lib.Hide
import Derived.Deep.RegionWith
import Derived.IntWalk
import Derived.StillTailTactics
namespace Go.Proofs.YtgpohndnkecbeaaDoor
open Go Go.RowKit Go.Proofs.Sc
set_option maxRecDepth 100000 in
theorem turns_at (k : Nat) (hk : k < 4) (w : World) : (Instr.index 136 (.agg #[.int .i64 7, .int .i64 9, .int .i64 13, .int .i64 18]) (.int .i64 (k : Int))).run Tryd.prog w = .ok (.int .i64 (gw turnsL k : Nat)) w := by
  match k, hk with
  | 0, _ => exact (by kernel_rfl : ((Instr.index 136 (.agg #[.int .i64 7, .int .i64 9, .int .i64 13, .int .i64 18]) (.int .i64 0)).run Tryd.prog w = .ok (.int .i64 (gw turnsL 0 : Nat)) w))
  | 1, _ => exact (by kernel_rfl : ((Instr.index 136 (.agg #[.int .i64 7, .int .i64 9, .int .i64 13, .int .i64 18]) (.int .i64 1)).run Tryd.prog w = .ok (.int .i64 (gw turnsL 1 : Nat)) w))
  | 2, _ => exact (by kernel_rfl : ((Instr.index 136 (.agg #[.int .i64 7, .int .i64 9, .int .i64 13, .int .i64 18]) (.int .i64 2)).run Tryd.prog w = .ok (.int .i64 (gw turnsL 2 : Nat)) w))
  | 3, _ => exact (by kernel_rfl : ((Instr.index 136 (.agg #[.int .i64 7, .int .i64 9, .int .i64 13, .int .i64 18]) (.int .i64 3)).run Tryd.prog w = .ok (.int .i64 (gw turnsL 3 : Nat)) w))
theorem turns_lt (k : Nat) : gw turnsL k < 32 := by
  match k with
  | 0 => decide
  | 1 => decide
  | 2 => decide
  | 3 => decide
  | k + 4 => simp [gw, turnsL]
set_option maxRecDepth 100000 in
set_option maxHeartbeats 1000000 in
theorem mix_any (S : List Nat) (w : World) (hT : Turns w) (hS : W8 S) :
    Calls Tryd.prog 95 #[.agg (wds S)] w fun e w' => e = .returned (.agg (wds (mix S))) ∧ Below w.heap.size w w' := by
  have hT0 := hT.lt
  obtain ⟨x0, x1, x2, x3, x4, x5, x6, x7, rfl, h0, h1, h2, h3, h4, h5, h6, h7⟩ := hS.form
  have hlw : (Value.agg (wds [x0, x1, x2, x3, x4, x5, x6, x7])) = .agg #[.int .u32 x0, .int .u32 x1, .int .u32 x2, .int .u32 x3, .int .u32 x4, .int .u32 x5, .int .u32 x6, .int .u32 x7] := by simp [wds]
  rw [hlw]
  clear hlw h0 h1 h2 h3 h4 h5 h6 h7
  go_enter Tryd.func95, Tryd.ntmps95
  go_wp2_with fail
  go_loopw [8] (fun i wr => ∃ r : Nat, r ≤ 8 ∧ i = .int .u32 r ∧
      Bx wr w.heap.size 113 (wds (mixn r [x0, x1, x2, x3, x4, x5, x6, x7])) ∧ Bx wr (w.heap.size + 1) 113 (wds [0, 0, 0, 0, 0, 0, 0, 0]) ∧ Below w.heap.size w wr)
    (fun i _ => 8 - (intOf i).toNat)
  case atStart =>
    exact ⟨0, by omega, rfl, (Bx.new w 113 _).alloc _, by rw [← World.size_alloc]; exact Bx.new _ 113 _, ((Below.refl _ _).alloc (Nat.le_refl _) _).alloc (by simp) _⟩
  case round =>
    obtain ⟨r, hr, rfl, hb, hres, hB⟩ := hrel
    have hw8 := mixn_w8 r hS
    obtain ⟨Z, hZ⟩ : ∃ Z, Z = mixn r [x0, x1, x2, x3, x4, x5, x6, x7] := ⟨_, rfl⟩
    rw [← hZ] at hb hw8
    have HZ : Hid (Z = mixn r [x0, x1, x2, x3, x4, x5, x6, x7]) := hZ
    clear hZ
    obtain ⟨wo, rfl⟩ : ∃ wo : World, wo = wr := ⟨_, rfl⟩
    have hTo := hT.below hB hT0
    by_cases hlt : r < 8
    · have c0 := hb.word 0 (by rw [hw8.1]; omega)
      have f0 := hb.frozen 0
      have l0 := hw8.lt 0
      obtain ⟨t0, t1, t2, t3⟩ := hTo.cells
      obtain ⟨z0, hz0⟩ : ∃ z : Nat, z = (gw Z 0 + 2654435769 * (r + 1)) % 4294967296 := ⟨_, rfl⟩
      have e1 : ((gw Z 0 : Int) + 2654435769 * ((r : Int) + 1)) % 4294967296 = (z0 : Int) := by rw [hz0]; simp only [Int.natCast_emod, Int.natCast_mul, Int.natCast_add, Int.cast_ofNat_Int]
      have e2 : ((gw Z 0 : Int) + 2654435769 * ((r : Int) + 1) % 4294967296) % 4294967296 = (z0 : Int) := by rw [← e1]; omega
      have HZ0 := Lib.hid hz0
      clear hz0
      have hn0 : w.heap.size ≠ 0 := by omega
      have h8 : decide ((r : Int) < 8) = true := by simp; omega
      go_wp2_with fail
      rw [e2]
      have hb1 := hb.setw 0 z0
      have hz1 := hw8.set 0 z0 (by rw [HZ0.out]; exact m32_lt _)
      have hr1 := hres.far (p := ⟨w.heap.size, 0, none⟩) (by simp) (.int .u32 (z0 : Nat))
      have hB1 := hB.setCell (p := ⟨w.heap.size, 0, none⟩) (Nat.le_refl _) (.int .u32 (z0 : Nat))
      obtain ⟨Y, hY⟩ : ∃ Y, Y = Z.set 0 z0 := ⟨_, rfl⟩
      rw [← hY] at hb1 hz1
      have HY := Lib.hid hY
      clear hY t0 t1 t2 t3 c0 f0 hb hres hB l0 hTo
      go_loopw [19] (fun i wr => ∃ k : Nat, k ≤ 4 ∧ i = .int .i64 k ∧ Bx wr w.heap.size 113 (wds (qn k Y)) ∧ Bx wr (w.heap.size + 1) 113 (wds [0, 0, 0, 0, 0, 0, 0, 0]) ∧ Below w.heap.size w wr)
        (fun i _ => 4 - (intOf i).toNat)
      case atStart => exact ⟨0, by omega, rfl, hb1, hr1, hB1⟩
      case round =>
        obtain ⟨k, hk, rfl, hb2, hr2, hB2⟩ := hrel
        have hq8 := qn_w8 hz1 k
        obtain ⟨X, hX⟩ : ∃ X, X = qn k Y := ⟨_, rfl⟩
        rw [← hX] at hb2 hq8
        have HX := Lib.hid hX
        clear hX hb1 hr1 hB1
        obtain ⟨w2, rfl⟩ : ∃ w2 : World, w2 = wr := ⟨_, rfl⟩
        by_cases hk4 : k < 4
        · have ix := turns_at k hk4
          have c0 := hb2.word k (by rw [hq8.1]; omega)
          have c4 := hb2.word (k + 4) (by rw [hq8.1]; omega)
          have f0 := hb2.frozen k
          have f4 := hb2.frozen (k + 4)
          have l0 := hq8.lt k
          have l4 := hq8.lt (k + 4)
          obtain ⟨a, ha⟩ : ∃ a : Nat, a = (gw X k + gw X (k + 4)) % 4294967296 := ⟨_, rfl⟩
          have es : ((gw X k : Int) + (gw X (k + 4) : Int)) % 4294967296 = (a : Int) := by rw [ha]; simp only [Int.natCast_emod, Int.natCast_add, Int.cast_ofNat_Int]
          have la : a < 4294967296 := by rw [ha]; exact m32_lt _
          have Ha := Lib.hid ha
          clear ha
          have lt := turns_lt k
          have hb3 := hb2.setw k a
          have c5 := hb3.word k (by rw [List.length_set, hq8.1]; omega)
          rw [show gw (X.set k a) k = a from gw_set_self _ _ _ (by rw [hq8.1]; omega)] at c5
          have c6 := hb3.word (k + 4) (by rw [List.length_set, hq8.1]; omega)
          rw [show gw (X.set k a) (k + 4) = gw X (k + 4) from gw_set_ne _ _ _ _ (by omega)] at c6
          have f7 := hb3.frozen (k + 4)
          have k1 : (k : Int) + 4 < 8 := by omega
          have k2 : (k : Int) < 8 := by omega
          have k3 : (0 : Int) ≤ (k : Int) + 4 := by omega
          have hk4' : decide ((k : Int) < 4) = true := by simp; omega
          go_wp2_with fail
          go_region
          go_wp2_with fail
          have hwr : IntKind.i64.wrap ((k : Int) + 4) = (k : Int) + 4 := IntWalk.i64_in _ (by omega)
          have hnt : ((k : Int) + 4).toNat = k + 4 := by omega
          go_region_with (first | (go_at_call 110; refine (turn_xor (gw X (k + 4)) a (gw turnsL k : Nat) _ l4 la (by omega) (by omega)).mono ?_; rintro e w' ⟨rfl, rfl⟩))
          all_goals
            clear hwr hnt
            go_wp2_with fail
            go_roundw
            case rel =>
              refine ⟨k + 1, by omega, by go_num, ?_, ?_, ?_⟩
              · have := hb3.setw (k + 4) (rotl (gw X (k + 4) ^^^ a) (gw turnsL k))
                have e : (X.set k a).set (k + 4) (rotl (gw X (k + 4) ^^^ a) (gw turnsL k)) = qn (k + 1) Y := by
                  rw [Ha.out, HX.out]; rfl
                rw [e] at this
                exact this
              · exact (hr2.far (p := ⟨w.heap.size, k, none⟩) (by simp) _).far (p := ⟨w.heap.size, k + 4, none⟩) (by simp) _
              · exact ((hB2.setCell (p := ⟨w.heap.size, k, none⟩) (Nat.le_refl _) _).setCell (p := ⟨w.heap.size, k + 4, none⟩) (Nat.le_refl _) _).drew.drew
            case measure => simp [intOf]; omega
        · obtain rfl : k = 4 := by omega
          obtain ⟨y0, y1, y2, y3, y4, y5, y6, y7, rfl, -⟩ := hq8.form
          have d0 : w2.cell? ⟨w.heap.size, 0, none⟩ = some (.int .u32 y0) := hb2.cell 0
          have d1 : w2.cell? ⟨w.heap.size, 1, none⟩ = some (.int .u32 y1) := hb2.cell 1
          have d2 : w2.cell? ⟨w.heap.size, 2, none⟩ = some (.int .u32 y2) := hb2.cell 2
          have d3 : w2.cell? ⟨w.heap.size, 3, none⟩ = some (.int .u32 y3) := hb2.cell 3
          have d4 : w2.cell? ⟨w.heap.size, 4, none⟩ = some (.int .u32 y4) := hb2.cell 4
          have d5 : w2.cell? ⟨w.heap.size, 5, none⟩ = some (.int .u32 y5) := hb2.cell 5
          have d6 : w2.cell? ⟨w.heap.size, 6, none⟩ = some (.int .u32 y6) := hb2.cell 6
          have d7 : w2.cell? ⟨w.heap.size, 7, none⟩ = some (.int .u32 y7) := hb2.cell 7
          go_wp2_with fail
          clear d0 d1 d2 d3 d4 d5 d6 d7
          have hbo := Bx.new w2 113 (wds [y0, y1, y2, y3, y4, y5, y6, y7])
          have hb4 := hb2.alloc (.cells (wds [y0, y1, y2, y3, y4, y5, y6, y7]) 113)
          have hr4 := hr2.alloc (.cells (wds [y0, y1, y2, y3, y4, y5, y6, y7]) 113)
          have hB4 := hB2.alloc hB2.size (.cells (wds [y0, y1, y2, y3, y4, y5, y6, y7]) 113)
          have hsz := hr2.lt
          obtain ⟨V, hV⟩ : ∃ V, V = [y0, y1, y2, y3, y4, y5, y6, y7] := ⟨_, rfl⟩
          rw [← hV] at hbo hb4 hr4 hB4 hq8
          go_loopw [47] (fun i wr => ∃ j : Nat, j ≤ 8 ∧ i = .int .i64 j ∧ Bx wr w.heap.size 113 (wds (pm V j)) ∧ Bx wr w2.heap.size 113 (wds V) ∧ Bx wr (w.heap.size + 1) 113 (wds [0, 0, 0, 0, 0, 0, 0, 0]) ∧ Below w.heap.size w wr)
            (fun i _ => 8 - (intOf i).toNat)
          case atStart => 
            refine ⟨0, by omega, rfl, ?_, ?_, ?_, ?_⟩
            · rw [pm_zero]; subst hV; exact hb4
            · subst hV; exact hbo
            · subst hV; exact hr4
            · subst hV; exact hB4
          case round =>
            obtain ⟨j, hj, rfl, hb5, hbo5, hr5, hB5⟩ := hrel
            clear hbo hb4 hr4 hB4 hb2 hr2 hB2
            have HV := Lib.hid hV
            clear hV
            obtain ⟨w3, rfl⟩ : ∃ w3 : World, w3 = wr := ⟨_, rfl⟩
            by_cases hj8 : j < 8
            · have c0 := hbo5.word ((j + 3) % 8) (by rw [hq8.1]; omega)
              have f0 := hb5.frozen j
              have l5 := pm_len hq8.1 j hj
              have c1 := hb5.word j (by rw [l5]; omega)
              have hj8' : decide ((j : Int) < 8) = true := by simp; omega
              go_wp2_with fail
              refine ⟨⟨j + 1, by omega, by go_num, ?_, ?_, ?_, ?_⟩, by simp [intOf]; omega⟩
              · have := hb5.setw j (gw V ((j + 3) % 8))
                rw [pm_succ hq8.1 j hj8] at this
                exact this
              · exact hbo5.far (p := ⟨w.heap.size, j, none⟩) (by simp; omega) _
              · exact hr5.far (p := ⟨w.heap.size, j, none⟩) (by simp) _
              · exact hB5.setCell (p := ⟨w.heap.size, j, none⟩) (Nat.le_refl _) _
            · obtain rfl : j = 8 := by omega
              clear h8
              go_wp2_with fail
              go_roundw
              case rel =>
                refine ⟨r + 1, by omega, by go_num, ?_, hr5, hB5⟩
                rw [pm_all hq8.1] at hb5
                have e : perm V = mixn (r + 1) [x0, x1, x2, x3, x4, x5, x6, x7] := by
                  rw [HV.out, HX.out, HY.out, HZ0.out, HZ.out]; rfl
                rw [← e]; exact hb5
              case measure => simp [intOf]; omega
    · obtain rfl : r = 8 := by omega
      have hm8 := hw8
      obtain ⟨y0, y1, y2, y3, y4, y5, y6, y7, rfl, -⟩ := hm8.form
      have d0 : wo.cell? ⟨w.heap.size, 0, none⟩ = some (.int .u32 y0) := hb.cell 0
      have d1 : wo.cell? ⟨w.heap.size, 1, none⟩ = some (.int .u32 y1) := hb.cell 1
      have d2 : wo.cell? ⟨w.heap.size, 2, none⟩ = some (.int .u32 y2) := hb.cell 2
      have d3 : wo.cell? ⟨w.heap.size, 3, none⟩ = some (.int .u32 y3) := hb.cell 3
      have d4 : wo.cell? ⟨w.heap.size, 4, none⟩ = some (.int .u32 y4) := hb.cell 4
      have d5 : wo.cell? ⟨w.heap.size, 5, none⟩ = some (.int .u32 y5) := hb.cell 5
      have d6 : wo.cell? ⟨w.heap.size, 6, none⟩ = some (.int .u32 y6) := hb.cell 6
      have d7 : wo.cell? ⟨w.heap.size, 7, none⟩ = some (.int .u32 y7) := hb.cell 7
      have f0 := hres.frozen 0
      have f1 := hres.frozen 1
      have f2 := hres.frozen 2
      have f3 := hres.frozen 3
      have f4 := hres.frozen 4
      have f5 := hres.frozen 5
      have f6 := hres.frozen 6
      have f7 := hres.frozen 7
      have k0 : wo.cell? ⟨w.heap.size + 1, 0, none⟩ = some (.int .u32 0) := hres.cell 0
      have k1 : wo.cell? ⟨w.heap.size + 1, 1, none⟩ = some (.int .u32 0) := hres.cell 1
      have k2 : wo.cell? ⟨w.heap.size + 1, 2, none⟩ = some (.int .u32 0) := hres.cell 2
      have k3 : wo.cell? ⟨w.heap.size + 1, 3, none⟩ = some (.int .u32 0) := hres.cell 3
      have k4 : wo.cell? ⟨w.heap.size + 1, 4, none⟩ = some (.int .u32 0) := hres.cell 4
      have k5 : wo.cell? ⟨w.heap.size + 1, 5, none⟩ = some (.int .u32 0) := hres.cell 5
      have k6 : wo.cell? ⟨w.heap.size + 1, 6, none⟩ = some (.int .u32 0) := hres.cell 6
      have k7 : wo.cell? ⟨w.heap.size + 1, 7, none⟩ = some (.int .u32 0) := hres.cell 7
      go_wp2_with fail
      clear d0 d1 d2 d3 d4 d5 d6 d7 f0 f1 f2 f3 f4 f5 f6 f7 k0 k1 k2 k3 k4 k5 k6 k7
      have hfin := (((((((hres.setw 0 y0).setw 1 y1).setw 2 y2).setw 3 y3).setw 4 y4).setw 5 y5).setw 6 y6).setw 7 y7
      refine bodyPost_ret (v := .agg (wds [y0, y1, y2, y3, y4, y5, y6, y7])) (results_cell_row rfl _ _ (w.heap.size + 1) 113 _ (0, 0) _ rfl hfin Tryd.underlying113 rfl (by kernel_rfl)) rfl ⟨?_, ?_⟩
      · rw [HZ.out]; rfl
      · have hs : ∀ j, w.heap.size ≤ (⟨w.heap.size + 1, j, none⟩ : Addr).block := fun j => by simp
        exact (((((((hB.setCell (hs 0) _).setCell (hs 1) _).setCell (hs 2) _).setCell (hs 3) _).setCell (hs 4) _).setCell (hs 5) _).setCell (hs 6) _).setCell (hs 7) _
end Go.Proofs.YtgpohndnkecbeaaDoor
