/- Contracts: ref04.goes, ref04.ProveOn. -/
import Derived.Test.YtgpohndnkecbeaaDoorTc
import Derived.Test.YtgpohndnkecbeaaDoorPj
namespace Go.Proofs.YtgpohndnkecbeaaDoor
open Go Go.RowKit Go.Proofs.Sc
/-- A literal of one digest. -/
theorem own_dig (w : World) (base d0 d1 d2 d3 : Nat) (hb : base ≤ w.heap.size) :
    (w.alloc (.cells #[.int .u32 d0, .int .u32 d1, .int .u32 d2, .int .u32 d3] 39)).ownsRow base 39 4 (.slice (some ⟨w.heap.size, 0, none⟩) 1 1) 1 (vd [[d0, d1, d2, d3]]) := by
  rw [vd_one]
  exact ⟨by simp, .inr ⟨w.heap.size, 1, #[.int .u32 d0, .int .u32 d1, .int .u32 d2, .int .u32 d3], rfl, hb, heap_alloc_new w _, Nat.le_refl _, by decide, by simp, by simp⟩⟩
set_option maxRecDepth 100000 in
set_option maxHeartbeats 1000000 in
theorem rgoes_any (N : Nat) : ∀ (l : Dl) (A : Option Addr) (n c m : Nat) (b : Bool) (w : World), n ≤ N → n ≤ 1000000 → 0 < m → m ≤ n → DS w A n c l →
    Calls Tryd.prog 78 #[.slice A n c, .int .i64 (m : Nat), .bool b] w fun e w' => WayIs (goes l m b) w e w' := by
  induction N with
  | zero => intro l A n c m b w hn _ h0 hm; omega
  | succ N ih =>
    intro l A n c m b w hn hn6 h0 hm hd
    have hl := hd.len
    by_cases h1 : m = n
    · subst h1
      have hg := goes_eq l m b (by omega)
      have HG := Lib.hid hg
      clear hg hl
      cases b with
      | true =>
        go_enter Tryd.func78, Tryd.ntmps78
        go_wp2_with fail
        go_ret
        exact ⟨_, rfl, by rw [HG.out]; exact World.ownsRow_nil _ _ _ _, Below.refl _ _⟩
      | false =>
        go_enter Tryd.func78, Tryd.ntmps78
        go_wp2_with fail
        refine (rroot_any m l A m c w (Nat.le_refl _) hn6 hd).mono ?_
        rintro e w1 ⟨d0, d1, d2, d3, hr, rfl, hb1⟩
        have hown := own_dig w1 w.heap.size d0 d1 d2 d3 hb1.size
        have hB1 := hb1.alloc hb1.size (.cells #[.int .u32 d0, .int .u32 d1, .int .u32 d2, .int .u32 d3] 39)
        go_wp2_with fail
        go_ret
        refine ⟨_, rfl, ?_, hB1⟩
        rw [HG.out, hr.out]
        exact hown
    · have IH := Lib.hid ih
      clear ih
      have hmn : m < n := by omega
      have e1 : ((m : Int) == n) = false := by simp; omega
      have hk1 := half_lt (n := n) (by omega)
      have hk2 := half_pos n
      have HL : Hid (m ≤ half n → goes l m b = goes (l.take (half n)) m b ++ [root (l.drop (half n))]) := by
        intro h
        have := goes_left l m b (by rw [hl]; exact hmn) h0 (by rw [hl]; exact h)
        rwa [hl] at this
      have HR : Hid (half n < m → goes l m b = goes (l.drop (half n)) (m - half n) false ++ [root (l.take (half n))]) := by
        intro h
        have := goes_right l m b (by rw [hl]; exact hmn) h0 (by rw [hl]; exact h)
        rwa [hl] at this
      go_enter Tryd.func78, Tryd.ntmps78
      go_wp2_with fail
      refine (rhalf_any n _ hn6).mono ?_
      rintro e w1 ⟨rfl, rfl⟩
      obtain ⟨k, hk⟩ : ∃ k, k = half n := ⟨_, rfl⟩
      rw [← hk] at hk1 hk2 HR HL ⊢
      clear hk hl
      obtain ⟨g, o, rfl, hdr⟩ := hd.drop hk1
      have hdt := hd.take (k := k) (by omega)
      have hcap := hd.cap
      have hs1 := sl42_h (some ⟨g, o, none⟩) n c k (by omega)
      have hs2 := sl42_l g o n c k (by omega) (by omega)
      have hwt := root_w4 _ hdt.wl
      have hwr := root_w4 _ hdr.wl
      clear hd
      by_cases hik : m ≤ k
      · have hw := HL.out hik
        have HW := Lib.hid hw
        clear hw
        have hcn : n - k ≤ c - k := by omega
        go_wp2_with fail
        go_region_law (first
          | (go_simp; go_at_call_of 78 (Value.slice (some ⟨g, o, none⟩) k c); refine (IH.out (l.take k) _ k c m b _ ?_ ?_ ?_ ?_ ?_).mono ?_; omega; omega; omega; omega; exact hdt.drew; rintro e w1 ⟨v1, rfl, hown1, hb1⟩; have hB1 : Below w.heap.size w w1 := (Below.refl w.heap.size w).drew.trans hb1; have hdr1 := hdr.drew.below hb1)
          | (go_simp; go_at_call_of 82 (Value.slice (some ⟨g, o + k * 4, none⟩) (n - k) (c - k)); refine (rroot_any (n - k) (l.drop k) _ (n - k) (c - k) _ ?_ ?_ ?_).mono ?_; omega; omega; exact hdr1; rintro e w2 ⟨d0, d1, d2, d3, hb, rfl, hb2⟩; have hB2 := hB1.trans (hb2.mono hB1.size); have hown2 := own_below hown1 hb2; have hsz2 : w.heap.size ≤ (w2.alloc (.cells #[.int .u32 (d0 : Int), .int .u32 (d1 : Int), .int .u32 (d2 : Int), .int .u32 (d3 : Int)] 39)).heap.size := (hB2.alloc hB2.size _).size)
          | (refine step_ap_new 42 39 _ 4 16 Tryd.underlying42 infoDig rfl (by decide) (by decide) rfl _ _ rfl w.heap.size v1 (goes (l.take k) m b).length _ rfl (hown2.alloc _) w2.heap.size 1 1 #[.int .u32 (d0 : Int), .int .u32 (d1 : Int), .int .u32 (d2 : Int), .int .u32 (d3 : Int)] rfl (Bx.new w2 39 _) rfl (dig_one d0 d1 d2 d3) ?_ hsz2 ?_; (next => have := goes_len (l.take k) m b h0 (by rw [hdt.len]; omega); rw [hdt.len] at this; omega); intro v3 w3 hown3 hg3 hat3))
        all_goals
          go_wp2_with fail
          go_ret
          refine ⟨v3, rfl, ?_, (hB2.alloc hB2.size _).grown hg3 hsz2 (own_base hown2)⟩
          rw [HW.out, List.length_append, List.length_singleton, vd_app, hb.out, vd_one]
          exact hown3
      · have hw := HR.out (by omega)
        have HW := Lib.hid hw
        clear hw
        have hcn : n - k ≤ c - k := by omega
        have hki : (k : Int) < (m : Int) := by omega
        obtain ⟨j, hj⟩ : ∃ j : Nat, (m : Int) - (k : Int) = (j : Int) := ⟨m - k, by omega⟩
        have hjk : j = m - k := by omega
        rw [← hjk] at HW
        have hjn : j ≤ n - k := by omega
        have hj0 : 0 < j := by omega
        have hwj : IntKind.i64.wrap (j : Int) = (j : Int) := IntWalk.i64_in _ (by omega)
        clear hjk
        go_wp2_with fail
        go_region_law (first
          | (go_simp; go_at_call_of 78 (Value.slice (some ⟨g, o + k * 4, none⟩) (n - k) (c - k)); refine (IH.out (l.drop k) _ (n - k) (c - k) j false _ ?_ ?_ ?_ ?_ ?_).mono ?_; omega; omega; exact hj0; exact hjn; exact hdr.drew; rintro e w1 ⟨v1, rfl, hown1, hb1⟩; have hB1 : Below w.heap.size w w1 := (Below.refl w.heap.size w).drew.trans hb1; have hdt1 := hdt.drew.below hb1)
          | (go_simp; go_at_call_of 82 (Value.slice (some ⟨g, o, none⟩) k c); refine (rroot_any k (l.take k) _ k c _ ?_ ?_ ?_).mono ?_; omega; omega; exact hdt1; rintro e w2 ⟨d0, d1, d2, d3, hb, rfl, hb2⟩; have hB2 := hB1.trans (hb2.mono hB1.size); have hown2 := own_below hown1 hb2; have hsz2 : w.heap.size ≤ (w2.alloc (.cells #[.int .u32 (d0 : Int), .int .u32 (d1 : Int), .int .u32 (d2 : Int), .int .u32 (d3 : Int)] 39)).heap.size := (hB2.alloc hB2.size _).size)
          | (refine step_ap_new 42 39 _ 4 16 Tryd.underlying42 infoDig rfl (by decide) (by decide) rfl _ _ rfl w.heap.size v1 (goes (l.drop k) j false).length _ rfl (hown2.alloc _) w2.heap.size 1 1 #[.int .u32 (d0 : Int), .int .u32 (d1 : Int), .int .u32 (d2 : Int), .int .u32 (d3 : Int)] rfl (Bx.new w2 39 _) rfl (dig_one d0 d1 d2 d3) ?_ hsz2 ?_; (next => have := goes_len (l.drop k) j false hj0 (by rw [hdr.len]; omega); rw [hdr.len] at this; omega); intro v3 w3 hown3 hg3 hat3))
        all_goals
          go_wp2_with fail
          go_ret
          refine ⟨v3, rfl, ?_, (hB2.alloc hB2.size _).grown hg3 hsz2 (own_base hown2)⟩
          rw [HW.out, List.length_append, List.length_singleton, vd_app, hb.out, vd_one]
          exact hown3
set_option maxRecDepth 100000 in
set_option maxHeartbeats 400000 in
theorem rproveon_any (l : Dl) (A : Option Addr) (n c m : Nat) (w : World) (hn6 : n ≤ 1000000) (h0 : 0 < m) (hm : m ≤ n) (hd : DS w A n c l) :
    Calls Tryd.prog 46 #[.slice A n c, .int .i64 (m : Nat)] w fun e w' => ∃ v, e = .returned (.tuple #[v, .int .i64 0]) ∧ w'.ownsRow w.heap.size 39 4 v (goes l m true).length (vd (goes l m true)) ∧ Below w.heap.size w w' := by
  have e1 : decide ((m : Int) < 1) = false := by simp; omega
  have e2 : decide (n < m) = false := by simp; omega
  have e3 : ¬ (n : Int) < (m : Int) := by omega
  have e4 : ¬ (m : Int) < 1 := by omega
  go_enter Tryd.func46, Tryd.ntmps46
  go_wp2_with fail
  refine (rgoes_any n l A n c m true w (Nat.le_refl _) hn6 h0 hm hd).mono ?_
  rintro e w1 ⟨v, rfl, hown, hb⟩
  go_wp2_with fail
  go_ret2
  exact ⟨v, rfl, hown, hb⟩
end Go.Proofs.YtgpohndnkecbeaaDoor
