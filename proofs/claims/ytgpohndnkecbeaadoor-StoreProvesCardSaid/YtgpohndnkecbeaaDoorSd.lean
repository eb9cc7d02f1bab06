/- Contracts: merkle.way, ref04.way. -/
import Derived.Test.YtgpohndnkecbeaaDoorSc
import Derived.Deep.RegionLaw
namespace Go.Proofs.YtgpohndnkecbeaaDoor
open Go Go.RowKit Go.Proofs.Sc
def WayIs (p : Dl) (w : World) (e : Ending) (w' : World) : Prop :=
  ∃ v, e = .returned v ∧ w'.ownsRow w.heap.size 39 4 v p.length (vd p) ∧ Below w.heap.size w w'
theorem dig_one (d0 d1 d2 d3 : Nat) : ∀ u ∈ (#[.int .u32 d0, .int .u32 d1, .int .u32 d2, .int .u32 d3] : Array Value).toList, u.oneCell' = true := by
  simp [Value.oneCell']
set_option maxRecDepth 100000 in
set_option maxHeartbeats 1000000 in
theorem mway_any (N : Nat) : ∀ (l : Dl) (A : Option Addr) (n c i : Nat) (w : World), n ≤ N → n ≤ 1000000 → i < n → DS w A n c l → Turns w →
    Calls Tryd.prog 98 #[.slice A n c, .int .i64 (i : Nat)] w fun e w' => WayIs (way l i) w e w' := by
  induction N with
  | zero => intro l A n c i w hn _ hi; omega
  | succ N ih =>
    intro l A n c i w hn hn6 hi hd hT
    have hl := hd.len
    by_cases h1 : n = 1
    · subst h1
      rw [way_one l i (by omega)]
      clear hl
      go_enter Tryd.func98, Tryd.ntmps98
      go_wp2_with fail
      go_ret
      exact ⟨_, rfl, World.ownsRow_nil _ _ _ _, Below.refl _ _⟩
    · have IH := Lib.hid ih
      clear ih
      have e1 : ((n : Int) == 1) = false := by simp; omega
      have hk1 := half_lt (n := n) (by omega)
      have hk2 := half_pos n
      have HL : Hid (i < half n → way l i = way (l.take (half n)) i ++ [root (l.drop (half n))]) := by
        intro h
        have := way_left l i (by omega) (by rw [hl]; exact h)
        rwa [hl] at this
      have HR : Hid (half n ≤ i → way l i = way (l.drop (half n)) (i - half n) ++ [root (l.take (half n))]) := by
        intro h
        have := way_right l i (by omega) (by rw [hl]; exact h)
        rwa [hl] at this
      go_enter Tryd.func98, Tryd.ntmps98
      go_wp2_with fail
      refine (half_any n _ hn6).mono ?_
      rintro e w1 ⟨rfl, rfl⟩
      obtain ⟨k, hk⟩ : ∃ k, k = half n := ⟨_, rfl⟩
      rw [← hk] at hk1 hk2 HR HL ⊢
      clear hk hl
      obtain ⟨g, o, rfl, hdr⟩ := hd.drop hk1
      have hdt := hd.take (k := k) (by omega)
      have hcap := hd.cap
      have hs1 := sl42_h (some ⟨g, o, none⟩) n c k (by omega)
      have hs2 := sl42_l g o n c k (by omega) (by omega)
      have hwt := root_w4 _ hdt.wl
      have hwr := root_w4 _ hdr.wl
      clear hd
      by_cases hik : i < k
      · have hw := HL.out hik
        have HW := Lib.hid hw
        clear hw
        have hcn : n - k ≤ c - k := by omega
        go_wp2_with fail
        go_region_law (first
          | (go_simp; go_at_call_of 98 (Value.slice (some ⟨g, o, none⟩) k c); refine (IH.out (l.take k) _ k c i _ ?_ ?_ ?_ ?_ ?_).mono ?_; omega; omega; omega; exact hdt.drew; exact hT; rintro e w1 ⟨v1, rfl, hown1, hb1⟩; have hB1 : Below w.heap.size w w1 := (Below.refl w.heap.size w).drew.trans hb1; have hdr1 := hdr.drew.below hb1; have hT1 : Turns w1 := hT.belowS hB1)
          | (go_simp; go_at_call_of 80 (Value.slice (some ⟨g, o + k * 4, none⟩) (n - k) (c - k)); refine (mroot_any (n - k) (l.drop k) _ (n - k) (c - k) _ ?_ ?_ ?_ ?_).mono ?_; omega; omega; exact hdr1; exact hT1; rintro e w2 ⟨d0, d1, d2, d3, hb, rfl, hb2⟩; have hB2 := hB1.trans (hb2.mono hB1.size); have hown2 := own_below hown1 hb2; have hsz2 : w.heap.size ≤ (w2.alloc (.cells #[.int .u32 (d0 : Int), .int .u32 (d1 : Int), .int .u32 (d2 : Int), .int .u32 (d3 : Int)] 39)).heap.size := (hB2.alloc hB2.size _).size)
          | (refine step_ap_new 42 39 _ 4 16 Tryd.underlying42 infoDig rfl (by decide) (by decide) rfl _ _ rfl w.heap.size v1 (way (l.take k) i).length _ rfl (hown2.alloc _) w2.heap.size 1 1 #[.int .u32 (d0 : Int), .int .u32 (d1 : Int), .int .u32 (d2 : Int), .int .u32 (d3 : Int)] rfl (Bx.new w2 39 _) rfl (dig_one d0 d1 d2 d3) ?_ hsz2 ?_; (next => have := way_len (l.take k) i; rw [hdt.len] at this; omega); intro v3 w3 hown3 hg3 hat3))
        all_goals
          go_wp2_with fail
          go_ret
          refine ⟨v3, rfl, ?_, (hB2.alloc hB2.size _).grown hg3 hsz2 (own_base hown2)⟩
          rw [HW.out, List.length_append, List.length_singleton, vd_app, hb.out, vd_one]
          exact hown3
      · have hw := HR.out (by omega)
        have HW := Lib.hid hw
        clear hw
        have hcn : n - k ≤ c - k := by omega
        have hki : (k : Int) ≤ (i : Int) := by omega
        obtain ⟨j, hj⟩ : ∃ j : Nat, (i : Int) - (k : Int) = (j : Int) := ⟨i - k, by omega⟩
        have hjk : j = i - k := by omega
        rw [← hjk] at HW
        have hjn : j < n - k := by omega
        have hwj : IntKind.i64.wrap (j : Int) = (j : Int) := IntWalk.i64_in _ (by omega)
        clear hjk
        go_wp2_with fail
        go_region_law (first
          | (go_simp; go_at_call_of 98 (Value.slice (some ⟨g, o + k * 4, none⟩) (n - k) (c - k)); refine (IH.out (l.drop k) _ (n - k) (c - k) j _ ?_ ?_ ?_ ?_ ?_).mono ?_; omega; omega; exact hjn; exact hdr.drew; exact hT; rintro e w1 ⟨v1, rfl, hown1, hb1⟩; have hB1 : Below w.heap.size w w1 := (Below.refl w.heap.size w).drew.trans hb1; have hdt1 := hdt.drew.below hb1; have hT1 : Turns w1 := hT.belowS hB1)
          | (go_simp; go_at_call_of 80 (Value.slice (some ⟨g, o, none⟩) k c); refine (mroot_any k (l.take k) _ k c _ ?_ ?_ ?_ ?_).mono ?_; omega; omega; exact hdt1; exact hT1; rintro e w2 ⟨d0, d1, d2, d3, hb, rfl, hb2⟩; have hB2 := hB1.trans (hb2.mono hB1.size); have hown2 := own_below hown1 hb2; have hsz2 : w.heap.size ≤ (w2.alloc (.cells #[.int .u32 (d0 : Int), .int .u32 (d1 : Int), .int .u32 (d2 : Int), .int .u32 (d3 : Int)] 39)).heap.size := (hB2.alloc hB2.size _).size)
          | (refine step_ap_new 42 39 _ 4 16 Tryd.underlying42 infoDig rfl (by decide) (by decide) rfl _ _ rfl w.heap.size v1 (way (l.drop k) j).length _ rfl (hown2.alloc _) w2.heap.size 1 1 #[.int .u32 (d0 : Int), .int .u32 (d1 : Int), .int .u32 (d2 : Int), .int .u32 (d3 : Int)] rfl (Bx.new w2 39 _) rfl (dig_one d0 d1 d2 d3) ?_ hsz2 ?_; (next => have := way_len (l.drop k) j; rw [hdr.len] at this; omega); intro v3 w3 hown3 hg3 hat3))
        all_goals
          go_wp2_with fail
          go_ret
          refine ⟨v3, rfl, ?_, (hB2.alloc hB2.size _).grown hg3 hsz2 (own_base hown2)⟩
          rw [HW.out, List.length_append, List.length_singleton, vd_app, hb.out, vd_one]
          exact hown3
set_option maxRecDepth 100000 in
set_option maxHeartbeats 400000 in
theorem mprove_any (l : Dl) (A : Option Addr) (n c i : Nat) (w : World) (hn6 : n ≤ 1000000) (hi : i < n) (hd : DS w A n c l) (hT : Turns w) :
    Calls Tryd.prog 68 #[.slice A n c, .int .i64 (i : Nat)] w fun e w' => ∃ v, e = .returned (.tuple #[v, .int .i64 0]) ∧ w'.ownsRow w.heap.size 39 4 v (way l i).length (vd (way l i)) ∧ Below w.heap.size w w' := by
  have e1 : decide ((i : Int) < 0) = false := by simp
  have e2 : decide (n ≤ i) = false := by simp; omega
  have e3 : (i : Int) < (n : Int) := by omega
  go_enter Tryd.func68, Tryd.ntmps68
  go_wp2_with fail
  refine (mway_any n l A n c i w (Nat.le_refl _) hn6 hi hd hT).mono ?_
  rintro e w1 ⟨v, rfl, hown, hb⟩
  go_wp2_with fail
  go_ret2
  exact ⟨v, rfl, hown, hb⟩
set_option maxRecDepth 100000 in
set_option maxHeartbeats 1000000 in
theorem rway_any (N : Nat) : ∀ (l : Dl) (A : Option Addr) (n c i : Nat) (w : World), n ≤ N → n ≤ 1000000 → i < n → DS w A n c l →
    Calls Tryd.prog 103 #[.slice A n c, .int .i64 (i : Nat)] w fun e w' => WayIs (way l i) w e w' := by
  induction N with
  | zero => intro l A n c i w hn _ hi; omega
  | succ N ih =>
    intro l A n c i w hn hn6 hi hd
    have hl := hd.len
    by_cases h1 : n = 1
    · subst h1
      rw [way_one l i (by omega)]
      clear hl
      go_enter Tryd.func103, Tryd.ntmps103
      go_wp2_with fail
      go_ret
      exact ⟨_, rfl, World.ownsRow_nil _ _ _ _, Below.refl _ _⟩
    · have IH := Lib.hid ih
      clear ih
      have e1 : ((n : Int) == 1) = false := by simp; omega
      have hk1 := half_lt (n := n) (by omega)
      have hk2 := half_pos n
      have HL : Hid (i < half n → way l i = way (l.take (half n)) i ++ [root (l.drop (half n))]) := by
        intro h
        have := way_left l i (by omega) (by rw [hl]; exact h)
        rwa [hl] at this
      have HR : Hid (half n ≤ i → way l i = way (l.drop (half n)) (i - half n) ++ [root (l.take (half n))]) := by
        intro h
        have := way_right l i (by omega) (by rw [hl]; exact h)
        rwa [hl] at this
      go_enter Tryd.func103, Tryd.ntmps103
      go_wp2_with fail
      refine (rhalf_any n _ hn6).mono ?_
      rintro e w1 ⟨rfl, rfl⟩
      obtain ⟨k, hk⟩ : ∃ k, k = half n := ⟨_, rfl⟩
      rw [← hk] at hk1 hk2 HR HL ⊢
      clear hk hl
      obtain ⟨g, o, rfl, hdr⟩ := hd.drop hk1
      have hdt := hd.take (k := k) (by omega)
      have hcap := hd.cap
      have hs1 := sl42_h (some ⟨g, o, none⟩) n c k (by omega)
      have hs2 := sl42_l g o n c k (by omega) (by omega)
      have hwt := root_w4 _ hdt.wl
      have hwr := root_w4 _ hdr.wl
      clear hd
      by_cases hik : i < k
      · have hw := HL.out hik
        have HW := Lib.hid hw
        clear hw
        have hcn : n - k ≤ c - k := by omega
        go_wp2_with fail
        go_region_law (first
          | (go_simp; go_at_call_of 103 (Value.slice (some ⟨g, o, none⟩) k c); refine (IH.out (l.take k) _ k c i _ ?_ ?_ ?_ ?_).mono ?_; omega; omega; omega; exact hdt.drew; rintro e w1 ⟨v1, rfl, hown1, hb1⟩; have hB1 : Below w.heap.size w w1 := (Below.refl w.heap.size w).drew.trans hb1; have hdr1 := hdr.drew.below hb1)
          | (go_simp; go_at_call_of 82 (Value.slice (some ⟨g, o + k * 4, none⟩) (n - k) (c - k)); refine (rroot_any (n - k) (l.drop k) _ (n - k) (c - k) _ ?_ ?_ ?_).mono ?_; omega; omega; exact hdr1; rintro e w2 ⟨d0, d1, d2, d3, hb, rfl, hb2⟩; have hB2 := hB1.trans (hb2.mono hB1.size); have hown2 := own_below hown1 hb2; have hsz2 : w.heap.size ≤ (w2.alloc (.cells #[.int .u32 (d0 : Int), .int .u32 (d1 : Int), .int .u32 (d2 : Int), .int .u32 (d3 : Int)] 39)).heap.size := (hB2.alloc hB2.size _).size)
          | (refine step_ap_new 42 39 _ 4 16 Tryd.underlying42 infoDig rfl (by decide) (by decide) rfl _ _ rfl w.heap.size v1 (way (l.take k) i).length _ rfl (hown2.alloc _) w2.heap.size 1 1 #[.int .u32 (d0 : Int), .int .u32 (d1 : Int), .int .u32 (d2 : Int), .int .u32 (d3 : Int)] rfl (Bx.new w2 39 _) rfl (dig_one d0 d1 d2 d3) ?_ hsz2 ?_; (next => have := way_len (l.take k) i; rw [hdt.len] at this; omega); intro v3 w3 hown3 hg3 hat3))
        all_goals
          go_wp2_with fail
          go_ret
          refine ⟨v3, rfl, ?_, (hB2.alloc hB2.size _).grown hg3 hsz2 (own_base hown2)⟩
          rw [HW.out, List.length_append, List.length_singleton, vd_app, hb.out, vd_one]
          exact hown3
      · have hw := HR.out (by omega)
        have HW := Lib.hid hw
        clear hw
        have hcn : n - k ≤ c - k := by omega
        have hki : (k : Int) ≤ (i : Int) := by omega
        obtain ⟨j, hj⟩ : ∃ j : Nat, (i : Int) - (k : Int) = (j : Int) := ⟨i - k, by omega⟩
        have hjk : j = i - k := by omega
        rw [← hjk] at HW
        have hjn : j < n - k := by omega
        have hwj : IntKind.i64.wrap (j : Int) = (j : Int) := IntWalk.i64_in _ (by omega)
        clear hjk
        go_wp2_with fail
        go_region_law (first
          | (go_simp; go_at_call_of 103 (Value.slice (some ⟨g, o + k * 4, none⟩) (n - k) (c - k)); refine (IH.out (l.drop k) _ (n - k) (c - k) j _ ?_ ?_ ?_ ?_).mono ?_; omega; omega; exact hjn; exact hdr.drew; rintro e w1 ⟨v1, rfl, hown1, hb1⟩; have hB1 : Below w.heap.size w w1 := (Below.refl w.heap.size w).drew.trans hb1; have hdt1 := hdt.drew.below hb1)
          | (go_simp; go_at_call_of 82 (Value.slice (some ⟨g, o, none⟩) k c); refine (rroot_any k (l.take k) _ k c _ ?_ ?_ ?_).mono ?_; omega; omega; exact hdt1; rintro e w2 ⟨d0, d1, d2, d3, hb, rfl, hb2⟩; have hB2 := hB1.trans (hb2.mono hB1.size); have hown2 := own_below hown1 hb2; have hsz2 : w.heap.size ≤ (w2.alloc (.cells #[.int .u32 (d0 : Int), .int .u32 (d1 : Int), .int .u32 (d2 : Int), .int .u32 (d3 : Int)] 39)).heap.size := (hB2.alloc hB2.size _).size)
          | (refine step_ap_new 42 39 _ 4 16 Tryd.underlying42 infoDig rfl (by decide) (by decide) rfl _ _ rfl w.heap.size v1 (way (l.drop k) j).length _ rfl (hown2.alloc _) w2.heap.size 1 1 #[.int .u32 (d0 : Int), .int .u32 (d1 : Int), .int .u32 (d2 : Int), .int .u32 (d3 : Int)] rfl (Bx.new w2 39 _) rfl (dig_one d0 d1 d2 d3) ?_ hsz2 ?_; (next => have := way_len (l.drop k) j; rw [hdr.len] at this; omega); intro v3 w3 hown3 hg3 hat3))
        all_goals
          go_wp2_with fail
          go_ret
          refine ⟨v3, rfl, ?_, (hB2.alloc hB2.size _).grown hg3 hsz2 (own_base hown2)⟩
          rw [HW.out, List.length_append, List.length_singleton, vd_app, hb.out, vd_one]
          exact hown3
set_option maxRecDepth 100000 in
set_option maxHeartbeats 400000 in
theorem rprove_any (l : Dl) (A : Option Addr) (n c i : Nat) (w : World) (hn6 : n ≤ 1000000) (hi : i < n) (hd : DS w A n c l) :
    Calls Tryd.prog 84 #[.slice A n c, .int .i64 (i : Nat)] w fun e w' => ∃ v, e = .returned (.tuple #[v, .int .i64 0]) ∧ w'.ownsRow w.heap.size 39 4 v (way l i).length (vd (way l i)) ∧ Below w.heap.size w w' := by
  have e1 : decide ((i : Int) < 0) = false := by simp
  have e2 : decide (n ≤ i) = false := by simp; omega
  have e3 : (i : Int) < (n : Int) := by omega
  go_enter Tryd.func84, Tryd.ntmps84
  go_wp2_with fail
  refine (rway_any n l A n c i w (Nat.le_refl _) hn6 hi hd).mono ?_
  rintro e w1 ⟨v, rfl, hown, hb⟩
  go_wp2_with fail
  go_ret2
  exact ⟨v, rfl, hown, hb⟩
end Go.Proofs.YtgpohndnkecbeaaDoor
