/- Contract: ref04.Root. -/
import Derived.Test.YtgpohndnkecbeaaDoorSb
namespace Go.Proofs.YtgpohndnkecbeaaDoor
open Go Go.RowKit Go.Proofs.Sc
set_option maxRecDepth 100000 in
set_option maxHeartbeats 1000000 in
theorem rroot_nil (A : Option Addr) (c : Nat) (w : World) : Calls Tryd.prog 82 #[.slice A 0 c] w fun e w' => RootIs [] w e w' := by
  go_enter Tryd.func82, Tryd.ntmps82
  go_wp2_with fail
  refine (rof_lit _ _ (by decide)).mono ?_
  rintro e w1 ⟨d0, d1, d2, d3, hd, rfl, hb1⟩
  have hr1 : Bx w1 w.heap.size 39 (wds [0, 0, 0, 0]) := (Bx.new w 39 _).belowS hb1
  have hB1 := below_new4 _ hb1
  obtain ⟨q0, q1, q2, q3⟩ := hr1.w4c
  obtain ⟨f0, f1, f2, f3⟩ := hr1.w4f
  clear hb1
  go_wp2_with fail
  have hfin := hr1.set4 d0 d1 d2 d3
  refine bodyPost_ret (v := .agg (wds [d0, d1, d2, d3])) (results_cell_row rfl _ _ w.heap.size 39 _ (0, 0) _ rfl hfin Tryd.underlying39 rfl (by kernel_rfl)) rfl ⟨d0, d1, d2, d3, ?_, rfl, below_set4 hB1 (Nat.le_refl _) _ _ _ _⟩
  show root [] = _
  rw [root_nil]; exact hd.out
set_option maxRecDepth 100000 in
set_option maxHeartbeats 1000000 in
theorem rroot_one (A : Option Addr) (c : Nat) (l : Dl) (w : World) (hd : DS w A 1 c l) : Calls Tryd.prog 82 #[.slice A 1 c] w fun e w' => RootIs l w e w' := by
  obtain ⟨g, o, d0, d1, d2, d3, rfl, hg, hw, c0, c1, c2, c3⟩ := hd.dig (k := 0) (by omega)
  rw [Nat.zero_mul, Nat.add_zero] at c0 c1 c2 c3
  have hgl : g < w.heap.size := World.block_lt_of_cell? w _ c0
  have hl := hd.len
  have HR : Hid (root l = [d0, d1, d2, d3]) := by
    match l, hl with
    | [x], _ => show root [x] = _; rw [root_one]; exact hg
  clear hg hl
  go_enter Tryd.func82, Tryd.ntmps82
  go_wp2_with fail
  have hfin := Bx.new w 39 (wds [d0, d1, d2, d3])
  refine bodyPost_ret (v := .agg (wds [d0, d1, d2, d3])) (results_cell_row rfl _ _ w.heap.size 39 _ (0, 0) _ rfl hfin Tryd.underlying39 rfl (by kernel_rfl)) rfl ⟨d0, d1, d2, d3, HR, rfl, (Below.refl _ _).alloc (Nat.le_refl _) _⟩
set_option maxRecDepth 100000 in
set_option maxHeartbeats 1000000 in
theorem rroot_any (N : Nat) : ∀ (l : Dl) (A : Option Addr) (n c : Nat) (w : World), n ≤ N → n ≤ 1000000 → DS w A n c l →
    Calls Tryd.prog 82 #[.slice A n c] w fun e w' => RootIs l w e w' := by
  induction N with
  | zero =>
    intro l A n c w hn _ hd
    obtain rfl : n = 0 := by omega
    obtain rfl : l = [] := List.eq_nil_of_length_eq_zero hd.len
    exact rroot_nil A c w
  | succ N ih =>
    intro l A n c w hn hn6 hd
    by_cases h0 : n = 0
    · subst h0
      obtain rfl : l = [] := List.eq_nil_of_length_eq_zero hd.len
      exact rroot_nil A c w
    by_cases h1 : n = 1
    · subst h1
      exact rroot_one A c l w hd
    · have IH := Lib.hid ih
      clear ih
      have e0 : ((n : Int) == 0) = false := by simp; omega
      have e1 : ((n : Int) == 1) = false := by simp; omega
      go_enter Tryd.func82, Tryd.ntmps82
      go_wp2_with fail
      refine (rhalf_any n _ hn6).mono ?_
      rintro e w1 ⟨rfl, rfl⟩
      have hk1 := half_lt (n := n) (by omega)
      have hk2 := half_pos n
      have HR : Hid (root l = pairD (root (l.take (half n))) (root (l.drop (half n)))) := by
        have hl := hd.len
        show root l = _
        rw [root_two l (by omega), hl]
      obtain ⟨k, hk⟩ : ∃ k, k = half n := ⟨_, rfl⟩
      rw [← hk] at hk1 hk2 HR ⊢
      clear hk
      go_wp2_with fail
      obtain ⟨g, o, rfl, hdr⟩ := hd.drop hk1
      have hdt := hd.take (k := k) (by omega)
      have hcap := hd.cap
      have hs1 := sl42_h (some ⟨g, o, none⟩) n c k (by omega)
      have hs2 := sl42_l g o n c k (by omega) (by omega)
      have hb0 : Below w.heap.size w (w.alloc (.cells #[.int .u32 0, .int .u32 0, .int .u32 0, .int .u32 0] 39)) := (Below.refl _ _).alloc (Nat.le_refl _) _
      have hr0 : Bx (w.alloc (.cells #[.int .u32 0, .int .u32 0, .int .u32 0, .int .u32 0] 39)) w.heap.size 39 (wds [0, 0, 0, 0]) := Bx.new w 39 _
      have hdr0 := hdr.below hb0
      have hdt0 := hdt.below hb0
      have hwt := root_w4 _ hdt.wl
      have hwr := root_w4 _ hdr.wl
      generalize (w.alloc (.cells #[.int .u32 0, .int .u32 0, .int .u32 0, .int .u32 0] 39)) = W at hb0 hr0 hdr0 hdt0 ⊢
      clear hdr hdt hd
      go_region_with (first
        | (go_at_call_of 82 (Value.slice (some ⟨g, o, none⟩) k c); refine (IH.out (l.take k) _ k c _ ?_ ?_ ?_).mono ?_; omega; omega; exact hdt0.drew; rintro e w1 ⟨a0, a1, a2, a3, ha, rfl, hb1⟩; have hB1 := hb0.drew.trans (hb1.mono hb0.size); have hdr1 := hdr0.drew.below hb1; have hr1 := hr0.drew.belowS hb1)
        | (go_at_call_of 82 (Value.slice (some ⟨g, o + k * 4, none⟩) (n - k) (c - k)); refine (IH.out (l.drop k) _ (n - k) (c - k) _ ?_ ?_ ?_).mono ?_; omega; omega; exact hdr1; rintro e w2 ⟨b0, b1, b2, b3, hb, rfl, hb2⟩; have hB2 := hB1.trans (hb2.mono hB1.size); have hr2 := hr1.belowS hb2)
        | (go_at_call 102; refine (rpair_any a0 a1 a2 a3 b0 b1 b2 b3 _ ?_ ?_).mono ?_; rw [← ha.out]; exact hwt; rw [← hb.out]; exact hwr; rintro e w3 ⟨d0, d1, d2, d3, hd3, rfl, hb3⟩; have hB3 := hB2.trans (hb3.mono hB2.size); have hr3 := hr2.belowS hb3; obtain ⟨q0, q1, q2, q3⟩ := hr3.w4c; obtain ⟨f0, f1, f2, f3⟩ := hr3.w4f))
      all_goals
        go_wp2_with fail
        have hfin := hr3.set4 d0 d1 d2 d3
        refine bodyPost_ret (v := .agg (wds [d0, d1, d2, d3])) (results_cell_row rfl _ _ w.heap.size 39 _ (0, 0) _ rfl hfin Tryd.underlying39 rfl (by kernel_rfl)) rfl ⟨d0, d1, d2, d3, ?_, rfl, below_set4 hB3 (Nat.le_refl _) _ _ _ _⟩
        show root l = _
        rw [HR.out, ha.out, hb.out]; exact hd3.out
end Go.Proofs.YtgpohndnkecbeaaDoor
