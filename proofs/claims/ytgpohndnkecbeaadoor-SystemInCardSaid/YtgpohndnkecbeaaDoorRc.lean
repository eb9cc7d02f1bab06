/- Contract: ref03.Mix. -/
import Derived.Test.YtgpohndnkecbeaaDoorRb
namespace Go.Proofs.Sc
/-- The permuted words as far as the j-th, zeros behind. -/
def pz (V : List Nat) (j : Nat) : List Nat := (perm V).take j ++ (List.replicate 8 0).drop j
theorem pz_zero (V : List Nat) : pz V 0 = [0, 0, 0, 0, 0, 0, 0, 0] := rfl
theorem pz_all {V : List Nat} (h : V.length = 8) : pz V 8 = perm V := by
  match V, h with
  | [_, _, _, _, _, _, _, _], _ => rfl
theorem pz_len {V : List Nat} (_h : V.length = 8) (j : Nat) (hj : j ≤ 8) : (pz V j).length = 8 := by
  have hp : (perm V).length = 8 := rfl
  unfold pz
  rw [List.length_append, List.length_take, List.length_drop, List.length_replicate, hp]
  omega
theorem pz_succ {V : List Nat} (h : V.length = 8) (j : Nat) (hj : j < 8) : (pz V j).set j (gw V ((j + 3) % 8)) = pz V (j + 1) := by
  match V, h with
  | [_, _, _, _, _, _, _, _], _ =>
    match j, hj with
    | 0, _ => rfl
    | 1, _ => rfl
    | 2, _ => rfl
    | 3, _ => rfl
    | 4, _ => rfl
    | 5, _ => rfl
    | 6, _ => rfl
    | 7, _ => rfl
end Go.Proofs.Sc
namespace Go.Proofs.YtgpohndnkecbeaaDoor
open Go Go.RowKit Go.Proofs.Sc
theorem rturn_xor (a b : Nat) (n : Int) (w : World) (ha : a < 4294967296) (hb : b < 4294967296) (h0 : 0 ≤ n) (hn : n < 32) :
    Calls Tryd.prog 112 #[.int .u32 (bits .xor .u32 (a : Int) (b : Int)), .int .i64 n] w fun e w' => e = .returned (.int .u32 (rotl (a ^^^ b) n.toNat : Nat)) ∧ w = w' := by
  obtain ⟨n, rfl⟩ := Int.eq_ofNat_of_zero_le h0
  rw [u32_xor_nat _ _ ha hb]
  exact rturn_any _ _ _ (xor_lt ha hb) (by omega)
def tn4 : Array Value := #[.int .i64 7, .int .i64 9, .int .i64 13, .int .i64 18]
theorem tn4_get (k : Nat) (hk : k < 4) : tn4[k]? = some (.int .i64 (gw turnsL k : Nat)) := by
  match k, hk with
  | 0, _ => rfl
  | 1, _ => rfl
  | 2, _ => rfl
  | 3, _ => rfl
/-- What the rounds keep: the state, the result's place, the turns. -/
def MixRel (w : World) (g3 : Nat) (S : List Nat) (wr : World) : Prop :=
  Bx wr w.heap.size 113 (wds S) ∧ Bx wr (w.heap.size + 1) 113 (wds [0, 0, 0, 0, 0, 0, 0, 0]) ∧ Bx wr g3 136 tn4 ∧ Below w.heap.size w wr
set_option maxRecDepth 100000 in
set_option maxHeartbeats 2000000 in
theorem rmix_any (S : List Nat) (w : World) (hS : W8 S) :
    Calls Tryd.prog 104 #[.agg (wds S)] w fun e w' => e = .returned (.agg (wds (mix S))) ∧ Below w.heap.size w w' := by
  obtain ⟨x0, x1, x2, x3, x4, x5, x6, x7, rfl, h0, h1, h2, h3, h4, h5, h6, h7⟩ := hS.form
  have hlw : (Value.agg (wds [x0, x1, x2, x3, x4, x5, x6, x7])) = .agg #[.int .u32 x0, .int .u32 x1, .int .u32 x2, .int .u32 x3, .int .u32 x4, .int .u32 x5, .int .u32 x6, .int .u32 x7] := by simp [wds]
  rw [hlw]
  clear hlw h0 h1 h2 h3 h4 h5 h6 h7
  have hA := ((Below.refl w.heap.size w).alloc (Nat.le_refl _) (.cells (wds [x0, x1, x2, x3, x4, x5, x6, x7]) 113)).alloc (by simp) (.cells (wds [0, 0, 0, 0, 0, 0, 0, 0]) 113)
  have hAs := (Bx.new w 113 (wds [x0, x1, x2, x3, x4, x5, x6, x7])).alloc (.cells (wds [0, 0, 0, 0, 0, 0, 0, 0]) 113)
  have hAr : Bx ((w.alloc (.cells (wds [x0, x1, x2, x3, x4, x5, x6, x7]) 113)).alloc (.cells (wds [0, 0, 0, 0, 0, 0, 0, 0]) 113)) (w.heap.size + 1) 113 (wds [0, 0, 0, 0, 0, 0, 0, 0]) := by rw [← World.size_alloc]; exact Bx.new _ 113 _
  go_enter Tryd.func104, Tryd.ntmps104
  go_wp2_with fail
  refine (rturns_any _).mono ?_
  rintro e w1 ⟨rfl, hb1⟩
  have hB1 : Below w.heap.size w w1 := hA.trans (hb1.mono (by simp; omega))
  have hs1 : Bx w1 w.heap.size 113 (wds [x0, x1, x2, x3, x4, x5, x6, x7]) := hAs.belowS hb1
  have hr1 : Bx w1 (w.heap.size + 1) 113 (wds [0, 0, 0, 0, 0, 0, 0, 0]) := hAr.belowS hb1
  have hg3 : w.heap.size + 1 < w1.heap.size := hr1.lt
  clear hA hAs hAr hb1
  go_wp2_with fail
  have ht := Bx.new w1 136 tn4
  have hb2 := (Below.refl w1.heap.size w1).alloc (Nat.le_refl _) (.cells tn4 136)
  go_loopw [4] (fun i wr => ∃ r : Nat, r ≤ 8 ∧ i = .int .i64 r ∧ MixRel w w1.heap.size (mixn r [x0, x1, x2, x3, x4, x5, x6, x7]) wr) (fun i _ => 8 - (intOf i).toNat)
  case atStart => exact ⟨0, by omega, rfl, hs1.belowS hb2, hr1.belowS hb2, ht, hB1.trans (hb2.mono hB1.size)⟩
  case round =>
    obtain ⟨r, hr, rfl, hb, hres, htn, hB⟩ := hrel
    clear ht hb2 hB1 hs1 hr1
    have hw8 := mixn_w8 r hS
    obtain ⟨Z, hZ⟩ : ∃ Z, Z = mixn r [x0, x1, x2, x3, x4, x5, x6, x7] := ⟨_, rfl⟩
    rw [← hZ] at hb hw8
    have HZ : Hid (Z = mixn r [x0, x1, x2, x3, x4, x5, x6, x7]) := hZ
    clear hZ
    obtain ⟨wo, rfl⟩ : ∃ wo : World, wo = wr := ⟨_, rfl⟩
    by_cases hlt : r < 8
    · have c0 := hb.word 0 (by rw [hw8.1]; omega)
      have f0 := hb.frozen 0
      have l0 := hw8.lt 0
      obtain ⟨z0, hz0⟩ : ∃ z : Nat, z = (gw Z 0 + 2654435769 * (r + 1)) % 4294967296 := ⟨_, rfl⟩
      have e1 : ((gw Z 0 : Int) + 2654435769 * ((r : Int) + 1)) % 4294967296 = (z0 : Int) := by rw [hz0]; simp only [Int.natCast_emod, Int.natCast_mul, Int.natCast_add, Int.cast_ofNat_Int]
      have e2 : ((gw Z 0 : Int) + 2654435769 * ((r : Int) + 1) % 4294967296) % 4294967296 = (z0 : Int) := by rw [← e1]; omega
      have HZ0 := Lib.hid hz0
      clear hz0
      have h8 : decide ((r : Int) < 8) = true := by simp; omega
      go_wp2_with fail
      rw [e2]
      have hb1 := hb.setw 0 z0
      have hz1 := hw8.set 0 z0 (by rw [HZ0.out]; exact m32_lt _)
      have hr1 := hres.far (p := ⟨w.heap.size, 0, none⟩) (by simp) (.int .u32 (z0 : Nat))
      have ht1 := htn.far (p := ⟨w.heap.size, 0, none⟩) (by simp; omega) (.int .u32 (z0 : Nat))
      have hB1 := hB.setCell (p := ⟨w.heap.size, 0, none⟩) (Nat.le_refl _) (.int .u32 (z0 : Nat))
      obtain ⟨Y, hY⟩ : ∃ Y, Y = Z.set 0 z0 := ⟨_, rfl⟩
      rw [← hY] at hb1 hz1
      have HY := Lib.hid hY
      clear hY c0 f0 hb hres hB htn l0
      go_loopw [5] (fun i wr => ∃ k : Nat, k ≤ 4 ∧ i = .int .i64 k ∧ MixRel w w1.heap.size (qn k Y) wr) (fun i _ => 4 - (intOf i).toNat)
      case atStart => exact ⟨0, by omega, rfl, hb1, hr1, ht1, hB1⟩
      case round =>
        obtain ⟨k, hk, rfl, hb2, hr2, ht2, hB2⟩ := hrel
        have hq8 := qn_w8 hz1 k
        obtain ⟨X, hX⟩ : ∃ X, X = qn k Y := ⟨_, rfl⟩
        rw [← hX] at hb2 hq8
        have HX := Lib.hid hX
        clear hX hb1 hr1 hB1 ht1
        obtain ⟨w2, rfl⟩ : ∃ w2 : World, w2 = wr := ⟨_, rfl⟩
        by_cases hk4 : k < 4
        · have ix : w2.cell? ⟨w1.heap.size, k, none⟩ = some (.int .i64 (gw turnsL k : Nat)) := by rw [ht2.cell]; exact tn4_get k hk4
          have c0 := hb2.word k (by rw [hq8.1]; omega)
          have c4 := hb2.word (k + 4) (by rw [hq8.1]; omega)
          have f0 := hb2.frozen k
          have f4 := hb2.frozen (k + 4)
          have l0 := hq8.lt k
          have l4 := hq8.lt (k + 4)
          obtain ⟨a, ha⟩ : ∃ a : Nat, a = (gw X k + gw X (k + 4)) % 4294967296 := ⟨_, rfl⟩
          have es : ((gw X k : Int) + (gw X (k + 4) : Int)) % 4294967296 = (a : Int) := by rw [ha]; simp only [Int.natCast_emod, Int.natCast_add, Int.cast_ofNat_Int]
          have la : a < 4294967296 := by rw [ha]; exact m32_lt _
          have Ha := Lib.hid ha
          clear ha
          have lt := turns_lt k
          have hb3 := hb2.setw k a
          have c5 := hb3.word k (by rw [List.length_set, hq8.1]; omega)
          rw [show gw (X.set k a) k = a from gw_set_self _ _ _ (by rw [hq8.1]; omega)] at c5
          have c6 := hb3.word (k + 4) (by rw [List.length_set, hq8.1]; omega)
          rw [show gw (X.set k a) (k + 4) = gw X (k + 4) from gw_set_ne _ _ _ _ (by omega)] at c6
          have f7 := hb3.frozen (k + 4)
          have ht3 := ht2.far (p := ⟨w.heap.size, k, none⟩) (by simp; omega) (.int .u32 (a : Nat))
          have ix3 : (w2.setCell ⟨w.heap.size, k, none⟩ (.int .u32 (a : Nat))).cell? ⟨w1.heap.size, k, none⟩ = some (.int .i64 (gw turnsL k : Nat)) := by rw [ht3.cell]; exact tn4_get k hk4
          have k1 : (k : Int) + 4 < 8 := by omega
          have k2 : (k : Int) < 8 := by omega
          have k3 : (0 : Int) ≤ (k : Int) + 4 := by omega
          have k4 : (k : Int) < 4 := by omega
          have hk4' : decide ((k : Int) < 4) = true := by simp; omega
          go_wp2_with fail
          have hwr : IntKind.i64.wrap ((k : Int) + 4) = (k : Int) + 4 := IntWalk.i64_in _ (by omega)
          have hnt : ((k : Int) + 4).toNat = k + 4 := by omega
          go_region
          go_wp2_with fail
          go_region_with (first | (go_at_call 112; refine (rturn_xor (gw X (k + 4)) a (gw turnsL k : Nat) _ l4 la (by omega) (by omega)).mono ?_; rintro e w' ⟨rfl, rfl⟩))
          all_goals
            clear hwr hnt
            go_wp2_with fail
            go_roundw
            case rel =>
              refine ⟨k + 1, by omega, by go_num, ?_, ?_, ?_, ?_⟩
              · have := hb3.setw (k + 4) (rotl (gw X (k + 4) ^^^ a) (gw turnsL k))
                have e : (X.set k a).set (k + 4) (rotl (gw X (k + 4) ^^^ a) (gw turnsL k)) = qn (k + 1) Y := by
                  rw [Ha.out, HX.out]; rfl
                rw [e] at this
                exact this
              · exact (hr2.far (p := ⟨w.heap.size, k, none⟩) (by simp) _).far (p := ⟨w.heap.size, k + 4, none⟩) (by simp) _
              · exact ht3.far (p := ⟨w.heap.size, k + 4, none⟩) (by simp; omega) _
              · exact ((hB2.setCell (p := ⟨w.heap.size, k, none⟩) (Nat.le_refl _) _).setCell (p := ⟨w.heap.size, k + 4, none⟩) (Nat.le_refl _) _).drew.drew
            case measure => simp [intOf]; omega
        · obtain rfl : k = 4 := by omega
          have hbo := Bx.new w2 113 (wds [0, 0, 0, 0, 0, 0, 0, 0])
          have hb4 := hb2.alloc (.cells (wds [0, 0, 0, 0, 0, 0, 0, 0]) 113)
          have hr4 := hr2.alloc (.cells (wds [0, 0, 0, 0, 0, 0, 0, 0]) 113)
          have ht4 := ht2.alloc (.cells (wds [0, 0, 0, 0, 0, 0, 0, 0]) 113)
          have hB4 := hB2.alloc hB2.size (.cells (wds [0, 0, 0, 0, 0, 0, 0, 0]) 113)
          have hsz := ht2.lt
          go_wp2_with fail
          go_loopw [7] (fun i wr => ∃ j : Nat, j ≤ 8 ∧ i = .int .i64 j ∧ MixRel w w1.heap.size X wr ∧ Bx wr w2.heap.size 113 (wds (pz X j))) (fun i _ => 8 - (intOf i).toNat)
          case atStart => exact ⟨0, by omega, rfl, ⟨hb4, hr4, ht4, hB4⟩, hbo⟩
          case round =>
            obtain ⟨j, hj, rfl, ⟨hb5, hr5, ht5, hB5⟩, hbo5⟩ := hrel
            clear hbo hb4 hr4 ht4 hB4 hb2 hr2 ht2 hB2
            obtain ⟨w3, rfl⟩ : ∃ w3 : World, w3 = wr := ⟨_, rfl⟩
            by_cases hj8 : j < 8
            · have c0 := hb5.word ((j + 3) % 8) (by rw [hq8.1]; omega)
              have f0 := hbo5.frozen j
              have l5 := pz_len hq8.1 j hj
              have c1 := hbo5.word j (by rw [l5]; omega)
              have hj8' : decide ((j : Int) < 8) = true := by simp; omega
              go_wp2_with fail
              refine ⟨⟨j + 1, by omega, by go_num, ⟨?_, ?_, ?_, ?_⟩, ?_⟩, by simp [intOf]; omega⟩
              · exact hb5.far (p := ⟨w2.heap.size, j, none⟩) (by simp; omega) _
              · exact hr5.far (p := ⟨w2.heap.size, j, none⟩) (by simp; omega) _
              · exact ht5.far (p := ⟨w2.heap.size, j, none⟩) (by simp; omega) _
              · exact hB5.setCell (p := ⟨w2.heap.size, j, none⟩) (by show w.heap.size ≤ w2.heap.size; omega) _
              · have := hbo5.setw j (gw X ((j + 3) % 8))
                rw [pz_succ hq8.1 j hj8] at this
                exact this
            · obtain rfl : j = 8 := by omega
              rw [pz_all hq8.1] at hbo5
              have hp8 := perm_w8 hq8
              obtain ⟨y0, y1, y2, y3, y4, y5, y6, y7, hpe, -⟩ := hp8.form
              rw [hpe] at hbo5
              obtain ⟨d0, d1, d2, d3, d4, d5, d6, d7⟩ := hbo5.w8c
              obtain ⟨v0, v1, v2, v3, v4, v5, v6, v7, hve, -⟩ := hq8.form
              have hb5' := hb5
              rw [hve] at hb5'
              obtain ⟨c0, c1, c2, c3, c4, c5, c6, c7⟩ := hb5'.w8c
              obtain ⟨f0, f1, f2, f3, f4, f5, f6, f7⟩ := hb5'.w8f
              clear h8
              have HP := Lib.hid hpe
              have HV := Lib.hid hve
              clear hpe hve
              go_wp2_with fail
              clear d0 d1 d2 d3 d4 d5 d6 d7 c0 c1 c2 c3 c4 c5 c6 c7 f0 f1 f2 f3 f4 f5 f6 f7
              go_roundw
              case rel =>
                refine ⟨r + 1, by omega, by go_num, ?_, ?_, ?_, ?_⟩
                · have e : mixn (r + 1) [x0, x1, x2, x3, x4, x5, x6, x7] = [y0, y1, y2, y3, y4, y5, y6, y7] := by
                    rw [← HP.out, HX.out, HY.out, HZ0.out, HZ.out]; rfl
                  rw [e]
                  exact hb5'.set8 _ _ _ _ _ _ _ _
                · exact hr5.far8 (by simp) _ _ _ _ _ _ _ _
                · exact ht5.far8 (by omega) _ _ _ _ _ _ _ _
                · exact below_set8 hB5 (Nat.le_refl _) _ _ _ _ _ _ _ _
              case measure => simp [intOf]; omega
    · obtain rfl : r = 8 := by omega
      have hm8 := hw8
      obtain ⟨y0, y1, y2, y3, y4, y5, y6, y7, rfl, -⟩ := hm8.form
      obtain ⟨d0, d1, d2, d3, d4, d5, d6, d7⟩ := hb.w8c
      obtain ⟨k0, k1, k2, k3, k4, k5, k6, k7⟩ := hres.w8c
      obtain ⟨f0, f1, f2, f3, f4, f5, f6, f7⟩ := hres.w8f
      go_wp2_with fail
      have hfin := hres.set8 y0 y1 y2 y3 y4 y5 y6 y7
      refine bodyPost_ret (v := .agg (wds [y0, y1, y2, y3, y4, y5, y6, y7])) (results_cell_row rfl _ _ (w.heap.size + 1) 113 _ (0, 0) _ rfl hfin Tryd.underlying113 rfl (by kernel_rfl)) rfl ⟨?_, ?_⟩
      · rw [HZ.out]; rfl
      · exact below_set8 hB (by simp) _ _ _ _ _ _ _ _
end Go.Proofs.YtgpohndnkecbeaaDoor
