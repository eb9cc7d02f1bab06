/- Contracts: ref04.up, ref04.Check. -/
import Derived.Test.YtgpohndnkecbeaaDoorTc
import Derived.Test.YtgpohndnkecbeaaDoorPj
namespace Go.Proofs.YtgpohndnkecbeaaDoor
open Go Go.RowKit Go.Proofs.Sc
theorem ds_but {w : World} {A : Option Addr} {m c : Nat} {p : Dl} (h : DS w A m c p) : DS w A (m - 1) c p.dropLast := by
  rw [List.dropLast_eq_take, h.len]; exact h.take (by omega)
theorem three_alloc (w : World) (C D E : Array Value) (t u v : TypeId) :
    Bx (((w.alloc (.cells C t)).alloc (.cells D u)).alloc (.cells E v)) w.heap.size t C ∧ Bx (((w.alloc (.cells C t)).alloc (.cells D u)).alloc (.cells E v)) (w.heap.size + 1) u D ∧ Bx (((w.alloc (.cells C t)).alloc (.cells D u)).alloc (.cells E v)) (w.heap.size + 1 + 1) v E ∧ Below w.heap.size w (((w.alloc (.cells C t)).alloc (.cells D u)).alloc (.cells E v)) := by
  obtain ⟨h1, h2, h3⟩ := two_alloc w C D t u
  refine ⟨h1.alloc _, h2.alloc _, ?_, h3.alloc h3.size _⟩
  have := Bx.new ((w.alloc (.cells C t)).alloc (.cells D u)) v E
  rw [World.size_alloc, World.size_alloc] at this
  exact this
def UpIs (n i : Nat) (leaf : List Nat) (p : Dl) (w : World) (e : Ending) (w' : World) : Prop :=
  ∃ x0 x1 x2 x3 : Nat, Hid ((up n i leaf p).1 = [x0, x1, x2, x3]) ∧ e = .returned (.tuple #[.agg #[.int .u32 x0, .int .u32 x1, .int .u32 x2, .int .u32 x3], .bool (up n i leaf p).2]) ∧ Below w.heap.size w w'
set_option maxRecDepth 100000 in
set_option maxHeartbeats 1000000 in
theorem rup_any (N : Nat) : ∀ (p : Dl) (A : Option Addr) (m c n i d0 d1 d2 d3 : Nat) (w : World), n ≤ N → 0 < n → n ≤ 1000000 → i < n → m ≤ 1000000 → DS w A m c p → W4 [d0, d1, d2, d3] →
    Calls Tryd.prog 87 #[.int .i64 (n : Nat), .int .i64 (i : Nat), .agg #[.int .u32 d0, .int .u32 d1, .int .u32 d2, .int .u32 d3], .slice A m c] w fun e w' => UpIs n i [d0, d1, d2, d3] p w e w' := by
  induction N with
  | zero => intro p A m c n i d0 d1 d2 d3 w hn h0; omega
  | succ N ih =>
    intro p A m c n i d0 d1 d2 d3 w hn h0 hn6 hi hm6 hd hw
    have hl := hd.len
    obtain ⟨hl0, hr0, hB0⟩ := two_alloc w (wds [d0, d1, d2, d3]) (wds [0, 0, 0, 0]) 39 39
    by_cases h1 : n = 1
    · subst h1
      have hu : up 1 i [d0, d1, d2, d3] p = ([d0, d1, d2, d3], ((m : Int) == 0)) := by
        have h2 : (m == 0) = ((m : Int) == 0) := by
          rw [Bool.eq_iff_iff]; simp
        rw [up_one _ _ _ _ (by omega), hl, h2]
      have HU := Lib.hid hu
      clear hu hl
      go_enter Tryd.func87, Tryd.ntmps87
      go_wp2_with fail
      obtain ⟨-, hfin, hBf⟩ := two_alloc w (wds [d0, d1, d2, d3]) (wds [d0, d1, d2, d3]) 39 39
      refine bodyPost_ret (v := .tuple #[.agg (wds [d0, d1, d2, d3]), .bool ((m : Int) == 0)]) (results_row2 rfl _ _ (w.heap.size + 1) 39 _ (0, 0) _ rfl rfl hfin Tryd.underlying39 rfl (by kernel_rfl)) rfl ⟨d0, d1, d2, d3, ?_, ?_, hBf⟩
      · show (up _ _ _ _).1 = _
        rw [HU.out]
      · rw [HU.out]; rfl
    · by_cases hm0 : m = 0
      · subst hm0
        have hu : up n i [d0, d1, d2, d3] p = ([d0, d1, d2, d3], false) := by
          rw [List.eq_nil_of_length_eq_zero hl, up_none _ _ _ (by omega)]
        have HU := Lib.hid hu
        have e1 : ((n : Int) == 1) = false := by simp; omega
        clear hu hl
        go_enter Tryd.func87, Tryd.ntmps87
        go_wp2_with fail
        obtain ⟨-, hfin, hBf⟩ := two_alloc w (wds [d0, d1, d2, d3]) (wds [d0, d1, d2, d3]) 39 39
        refine bodyPost_ret (v := .tuple #[.agg (wds [d0, d1, d2, d3]), .bool false]) (results_row2 rfl _ _ (w.heap.size + 1) 39 _ (0, 0) _ rfl rfl hfin Tryd.underlying39 rfl (by kernel_rfl)) rfl ⟨d0, d1, d2, d3, ?_, ?_, hBf⟩
        · show (up _ _ _ _).1 = _
          rw [HU.out]
        · rw [HU.out]; rfl
      · have IH := Lib.hid ih
        clear ih
        obtain ⟨q, rfl⟩ : ∃ q, m = q + 1 := ⟨m - 1, by omega⟩
        obtain ⟨g, o, l0, l1, l2, l3, rfl, hgl, hlw, c0, c1, c2, c3⟩ := hd.dig (k := q) (by omega)
        have hlast : p.getLastD [] = [l0, l1, l2, l3] := by rw [last_get, hl]; exact hgl
        have hdb : DS w (some ⟨g, o, none⟩) q c p.dropLast := ds_but hd
        have hcap := hd.cap
        have hgw : g < w.heap.size := World.block_lt_of_cell? w _ c0
        have e1 : ((n : Int) == 1) = false := by simp; omega
        have hk1 := half_lt (n := n) (by omega)
        have hk2 := half_pos n
        have HL : Hid (i < half n → up n i [d0, d1, d2, d3] p = (pairD (up (half n) i [d0, d1, d2, d3] p.dropLast).1 [l0, l1, l2, l3], (up (half n) i [d0, d1, d2, d3] p.dropLast).2)) := by
          intro h
          rw [up_left _ _ _ _ (by omega) (by omega) h, hlast]
        have HR : Hid (half n ≤ i → up n i [d0, d1, d2, d3] p = (pairD [l0, l1, l2, l3] (up (n - half n) (i - half n) [d0, d1, d2, d3] p.dropLast).1, (up (n - half n) (i - half n) [d0, d1, d2, d3] p.dropLast).2)) := by
          intro h
          rw [up_right _ _ _ _ (by omega) (by omega) h, hlast]
        have hpw := hd.wl.dropLast
        have hsl := sl42_h (some ⟨g, o, none⟩) (q + 1) c q (by omega)
        clear hl hgl hlast hd
        go_enter Tryd.func87, Tryd.ntmps87
        go_wp2_with fail
        refine (rhalf_any n _ hn6).mono ?_
        rintro e w1 ⟨rfl, rfl⟩
        obtain ⟨k, hk⟩ : ∃ k, k = half n := ⟨_, rfl⟩
        rw [← hk] at hk1 hk2 HR HL ⊢
        clear hk hl0 hr0 hB0
        obtain ⟨hl0, hr0, hs0, hB0⟩ := three_alloc w #[.int .u32 d0, .int .u32 d1, .int .u32 d2, .int .u32 d3] #[.int .u32 0, .int .u32 0, .int .u32 0, .int .u32 0] #[.int .u32 l0, .int .u32 l1, .int .u32 l2, .int .u32 l3] 39 39 39
        have hdb0 := hdb.below hB0
        generalize (((w.alloc (.cells #[.int .u32 d0, .int .u32 d1, .int .u32 d2, .int .u32 d3] 39)).alloc (.cells #[.int .u32 0, .int .u32 0, .int .u32 0, .int .u32 0] 39)).alloc (.cells #[.int .u32 l0, .int .u32 l1, .int .u32 l2, .int .u32 l3] 39)) = X at hl0 hr0 hs0 hB0 hdb0 ⊢
        have hl0 : Bx X w.heap.size 39 (wds [d0, d1, d2, d3]) := hl0
        have hr0 : Bx X (w.heap.size + 1) 39 (wds [0, 0, 0, 0]) := hr0
        have hs0 : Bx X (w.heap.size + 1 + 1) 39 (wds [l0, l1, l2, l3]) := hs0
        obtain ⟨m0, m1, m2, m3⟩ := hl0.w4c
        clear hdb c0 c1 c2 c3
        by_cases hik : i < k
        · have hu := HL.out hik
          have HW := Lib.hid hu
          clear hu
          go_wp2_with fail
          refine (IH.out p.dropLast (some ⟨g, o, none⟩) q c k i d0 d1 d2 d3 X (by omega) hk2 (by omega) hik (by omega) hdb0 hw).mono ?_
          rintro e w1 ⟨x0, x1, x2, x3, hx, rfl, hb1⟩
          have hxw : W4 [x0, x1, x2, x3] := by rw [← hx.out]; exact up_w4 _ _ _ _ hw hpw
          have hB1 := hB0.trans (hb1.mono hB0.size)
          have hr1 := hr0.belowS hb1
          have hs1 := hs0.belowS hb1
          obtain ⟨s0, s1, s2, s3⟩ := hs1.w4c
          have zs := hs1.lt
          obtain ⟨b, hb⟩ : ∃ b, b = (up k i [d0, d1, d2, d3] p.dropLast).2 := ⟨_, rfl⟩
          rw [← hb] at HW ⊢
          clear hb m0 m1 m2 m3 hl0 hr0 hs0 hdb0 hb1
          go_wp2_with fail
          refine (rpair_any x0 x1 x2 x3 l0 l1 l2 l3 _ hxw hlw).mono ?_
          rintro e w2 ⟨y0, y1, y2, y3, hy, rfl, hb2⟩
          have hB2 := (hB1.alloc hB1.size _).trans (hb2.mono (hB1.alloc hB1.size _).size)
          have hr2 := (hr1.alloc _).belowS hb2
          obtain ⟨q0, q1, q2, q3⟩ := hr2.w4c
          obtain ⟨f0, f1, f2, f3⟩ := hr2.w4f
          clear s0 s1 s2 s3 zs hs1 hr1 hb2
          go_wp2_with fail
          have hfin := hr2.set4 y0 y1 y2 y3
          refine bodyPost_ret (v := .tuple #[.agg (wds [y0, y1, y2, y3]), .bool b]) (results_row2 rfl _ _ (w.heap.size + 1) 39 _ (0, 0) _ rfl rfl hfin Tryd.underlying39 rfl (by kernel_rfl)) rfl ⟨y0, y1, y2, y3, ?_, ?_, below_set4 hB2 (by simp) _ _ _ _⟩
          · show (up _ _ _ _).1 = _
            rw [HW.out, hx.out]; exact hy.out
          · rw [HW.out]; rfl
        · have hu := HR.out (by omega)
          have HW := Lib.hid hu
          obtain ⟨j, hj⟩ : ∃ j : Nat, (i : Int) - (k : Int) = (j : Int) := ⟨i - k, by omega⟩
          obtain ⟨nn, hnn⟩ : ∃ j : Nat, (n : Int) - (k : Int) = (j : Int) := ⟨n - k, by omega⟩
          have hjk : j = i - k := by omega
          have hnk : nn = n - k := by omega
          rw [← hjk, ← hnk] at HW
          have hjn : j < nn := by omega
          have hwj : IntKind.i64.wrap (j : Int) = (j : Int) := IntWalk.i64_in _ (by omega)
          have hwn : IntKind.i64.wrap (nn : Int) = (nn : Int) := IntWalk.i64_in _ (by omega)
          have hnn6 : nn ≤ N := by omega
          have hki : (k : Int) ≤ (i : Int) := by omega
          clear hu hjk hnk
          go_wp2_with fail
          refine (IH.out p.dropLast (some ⟨g, o, none⟩) q c nn j d0 d1 d2 d3 X hnn6 (by omega) (by omega) hjn (by omega) hdb0 hw).mono ?_
          rintro e w1 ⟨x0, x1, x2, x3, hx, rfl, hb1⟩
          have hxw : W4 [x0, x1, x2, x3] := by rw [← hx.out]; exact up_w4 _ _ _ _ hw hpw
          have hB1 := hB0.trans (hb1.mono hB0.size)
          have hr1 := hr0.belowS hb1
          have hs1 := hs0.belowS hb1
          obtain ⟨s0, s1, s2, s3⟩ := hs1.w4c
          have zs := hs1.lt
          obtain ⟨b, hb⟩ : ∃ b, b = (up nn j [d0, d1, d2, d3] p.dropLast).2 := ⟨_, rfl⟩
          rw [← hb] at HW ⊢
          clear hb m0 m1 m2 m3 hl0 hr0 hs0 hdb0 hb1
          go_wp2_with fail
          refine (rpair_any l0 l1 l2 l3 x0 x1 x2 x3 _ hlw hxw).mono ?_
          rintro e w2 ⟨y0, y1, y2, y3, hy, rfl, hb2⟩
          have hB2 := (hB1.alloc hB1.size _).trans (hb2.mono (hB1.alloc hB1.size _).size)
          have hr2 := (hr1.alloc _).belowS hb2
          obtain ⟨q0, q1, q2, q3⟩ := hr2.w4c
          obtain ⟨f0, f1, f2, f3⟩ := hr2.w4f
          clear s0 s1 s2 s3 zs hs1 hr1 hb2
          go_wp2_with fail
          have hfin := hr2.set4 y0 y1 y2 y3
          refine bodyPost_ret (v := .tuple #[.agg (wds [y0, y1, y2, y3]), .bool b]) (results_row2 rfl _ _ (w.heap.size + 1) 39 _ (0, 0) _ rfl rfl hfin Tryd.underlying39 rfl (by kernel_rfl)) rfl ⟨y0, y1, y2, y3, ?_, ?_, below_set4 hB2 (by simp) _ _ _ _⟩
          · show (up _ _ _ _).1 = _
            rw [HW.out, hx.out]; exact hy.out
          · rw [HW.out]; rfl
set_option maxRecDepth 100000 in
set_option maxHeartbeats 1000000 in
theorem rcheck_any (r0 r1 r2 r3 n i d0 d1 d2 d3 : Nat) (p : Dl) (A : Option Addr) (m c : Nat) (w : World) (hn : n ≤ 1000) (hi : i < n) (hm : m ≤ 20) (hd : DS w A m c p) (hw : W4 [d0, d1, d2, d3]) :
    Calls Tryd.prog 55 #[.agg #[.int .u32 r0, .int .u32 r1, .int .u32 r2, .int .u32 r3], .int .i64 (n : Nat), .int .i64 (i : Nat), .agg #[.int .u32 d0, .int .u32 d1, .int .u32 d2, .int .u32 d3], .slice A m c] w fun e w' =>
      e = .returned (.bool ((up n i [d0, d1, d2, d3] p).2 && decide ((up n i [d0, d1, d2, d3] p).1 = [r0, r1, r2, r3]))) ∧ Below w.heap.size w w' := by
  have hi2 : (i : Int) < (n : Int) := by omega
  have hn2 : (n : Int) ≤ 1000 := by omega
  have hm2 : (m : Int) ≤ 20 := by omega
  go_enter Tryd.func55, Tryd.ntmps55
  obtain ⟨hr0, hl0, hB0⟩ := two_alloc w (wds [r0, r1, r2, r3]) (wds [d0, d1, d2, d3]) 39 39
  go_wp2_with fail
  refine (rup_any n p A m c n i d0 d1 d2 d3 _ (Nat.le_refl _) (by omega) (by omega) hi (by omega) (hd.below hB0) hw).mono ?_
  rintro e w1 ⟨x0, x1, x2, x3, hx, rfl, hb1⟩
  have hB1 := hB0.trans (hb1.mono hB0.size)
  have hr1 := hr0.belowS hb1
  obtain ⟨k0, k1, k2, k3⟩ := hr1.w4c
  have zr := hr1.lt
  obtain ⟨b, hb⟩ : ∃ b, b = (up n i [d0, d1, d2, d3] p).2 := ⟨_, rfl⟩
  rw [← hb]
  have HB := Lib.hid hb
  have heq := eq_dig x0 x1 x2 x3 r0 r1 r2 r3
  obtain ⟨u, hu⟩ : ∃ u, u = decide ([x0, x1, x2, x3] = [r0, r1, r2, r3]) := ⟨_, rfl⟩
  rw [← hu] at heq
  have HU : Hid (u = decide ((up n i [d0, d1, d2, d3] p).1 = [r0, r1, r2, r3])) := by show u = _; rw [hu, hx.out]
  clear hb hu hb1 hr0 hl0 hB0 hr1
  cases b with
  | false =>
    go_wp2_with fail
    go_ret
    exact ⟨by rw [← HB.out]; rfl, hB1.alloc hB1.size _⟩
  | true =>
    go_wp2_with fail
    go_ret
    exact ⟨by rw [← HB.out, ← HU.out]; rfl, hB1.alloc hB1.size _⟩
end Go.Proofs.YtgpohndnkecbeaaDoor
