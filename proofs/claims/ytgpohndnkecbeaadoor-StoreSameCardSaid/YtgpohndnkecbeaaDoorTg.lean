/- Contracts: ref04.on, ref04.CheckOn. -/
import Derived.Test.YtgpohndnkecbeaaDoorTe
namespace Go.Proofs.YtgpohndnkecbeaaDoor
open Go Go.RowKit Go.Proofs.Sc
/-- Results: two structs in cells of their own, and one more. -/
theorem results_rows {P : Program} {fn : Func} {p q u : Tmp} {ty : TypeId} {x : Value} (h : fn.results = #[.cell p ty, .cell q ty, .tmp u]) (tmps : Array Value) (w : World) (g k : Nat) (t s : TypeId) (cs ds : Array Value) (fr fs : Nat × Nat) (d : TypeDesc)
    (hp : tmps.getD p undef = .pointer (some ⟨g, 0, none⟩)) (hq : tmps.getD q undef = .pointer (some ⟨k, 0, none⟩)) (hx : tmps.getD u undef = x) (hg : w.heap[g]? = some (.cells cs t fr)) (hk : w.heap[k]? = some (.cells ds s fs))
    (hu : P.underlying ty = some d) (hd : (match d with | .struct _ | .array _ _ => true | _ => false) = true) (hi : (P.info? ty).map (·.size) = some cs.size) (hi2 : (P.info? ty).map (·.size) = some ds.size) :
    (results fn tmps).run P w = .ok (.tuple #[.agg cs, .agg ds, x]) w := by
  have hp' : tmps[p]?.getD undef = .pointer (some ⟨g, 0, none⟩) := by simpa using hp
  have hq' : tmps[q]?.getD undef = .pointer (some ⟨k, 0, none⟩) := by simpa using hq
  have hx' : tmps[u]?.getD undef = x := by simpa using hx
  simp [results, h, hp', hq', hx', asAddr, run_loadVar_row w g t ty cs fr d hg hu hd hi, run_loadVar_row w k s ty ds fs d hk hu hd hi2]
def OnIs (old : List Nat) (m n : Nat) (b : Bool) (p : Dl) (w : World) (e : Ending) (w' : World) : Prop :=
  ∃ x0 x1 x2 x3 y0 y1 y2 y3 : Nat, Hid ((onP old m n b p).1 = [x0, x1, x2, x3]) ∧ Hid ((onP old m n b p).2.1 = [y0, y1, y2, y3]) ∧
    e = .returned (.tuple #[.agg #[.int .u32 x0, .int .u32 x1, .int .u32 x2, .int .u32 x3], .agg #[.int .u32 y0, .int .u32 y1, .int .u32 y2, .int .u32 y3], .bool true]) ∧ Below w.heap.size w w'
set_option maxRecDepth 100000 in
set_option maxHeartbeats 1000000 in
theorem ron_whole (p : Dl) (A : Option Addr) (q c m d0 d1 d2 d3 : Nat) (w : World) (_hd : DS w A q c p) (hq : q = 0) :
    Calls Tryd.prog 79 #[.agg #[.int .u32 d0, .int .u32 d1, .int .u32 d2, .int .u32 d3], .int .i64 (m : Nat), .int .i64 (m : Nat), .bool true, .slice A q c] w fun e w' => OnIs [d0, d1, d2, d3] m m true p w e w' := by
  subst hq
  have hu := on_whole [d0, d1, d2, d3] m m p (Nat.le_refl _)
  have HU := Lib.hid hu
  clear hu
  obtain ⟨ho, h1, h2, hB⟩ := three_alloc w #[.int .u32 d0, .int .u32 d1, .int .u32 d2, .int .u32 d3] #[.int .u32 0, .int .u32 0, .int .u32 0, .int .u32 0] #[.int .u32 0, .int .u32 0, .int .u32 0, .int .u32 0] 39 39 39
  go_enter Tryd.func79, Tryd.ntmps79
  go_wp2_with fail
  generalize (((w.alloc (.cells #[.int .u32 d0, .int .u32 d1, .int .u32 d2, .int .u32 d3] 39)).alloc (.cells #[.int .u32 0, .int .u32 0, .int .u32 0, .int .u32 0] 39)).alloc (.cells #[.int .u32 0, .int .u32 0, .int .u32 0, .int .u32 0] 39)) = X at ho h1 h2 hB ⊢
  have ho : Bx X w.heap.size 39 (wds [d0, d1, d2, d3]) := ho
  have h1 : Bx X (w.heap.size + 1) 39 (wds [0, 0, 0, 0]) := h1
  have h2 : Bx X (w.heap.size + 1 + 1) 39 (wds [0, 0, 0, 0]) := h2
  obtain ⟨m0, m1, m2, m3⟩ := ho.w4c
  obtain ⟨i0, i1, i2, i3⟩ := h1.w4c
  obtain ⟨j0, j1, j2, j3⟩ := h2.w4c
  obtain ⟨f0, f1, f2, f3⟩ := h1.w4f
  obtain ⟨g0, g1, g2, g3⟩ := h2.w4f
  go_region
  go_wp2_with fail
  have r1 := ((h1.set4 d0 d1 d2 d3).far4 (g := w.heap.size + 1 + 1) (by omega) d0 d1 d2 d3).drew
  have r2 := ((h2.far4 (g := w.heap.size + 1) (by omega) d0 d1 d2 d3).set4 d0 d1 d2 d3).drew
  refine bodyPost_ret (v := .tuple #[.agg (wds [d0, d1, d2, d3]), .agg (wds [d0, d1, d2, d3]), .bool true]) (results_rows rfl _ _ (w.heap.size + 1) (w.heap.size + 1 + 1) 39 39 _ _ (0, 0) (0, 0) _ rfl rfl rfl r1 r2 Tryd.underlying39 rfl (by kernel_rfl) (by kernel_rfl)) rfl ⟨d0, d1, d2, d3, d0, d1, d2, d3, ?_, ?_, rfl, (below_set4 (below_set4 hB (by omega) _ _ _ _) (by omega) _ _ _ _).drew⟩
  · show (onP _ _ _ _ _).1 = _
    rw [HU.out]
  · show (onP _ _ _ _ _).2.1 = _
    rw [HU.out]
set_option maxRecDepth 100000 in
set_option maxHeartbeats 1000000 in
theorem ron_cut (p : Dl) (A : Option Addr) (q c m e0 e1 e2 e3 : Nat) (w : World) (hd : DS w A q c p) (hq : q = 1) :
    Calls Tryd.prog 79 #[.agg #[.int .u32 e0, .int .u32 e1, .int .u32 e2, .int .u32 e3], .int .i64 (m : Nat), .int .i64 (m : Nat), .bool false, .slice A q c] w fun e w' => OnIs [e0, e1, e2, e3] m m false p w e w' := by
  subst hq
  obtain ⟨g, o, d0, d1, d2, d3, rfl, hg, -, c0, c1, c2, c3⟩ := hd.dig (k := 0) (by omega)
  have hu := on_cut [e0, e1, e2, e3] m m p (Nat.le_refl _)
  have hp : p.headD [] = [d0, d1, d2, d3] := by
    match p, hd.len with
    | [x], _ => exact hg
  rw [if_pos hd.len, hp] at hu
  have HU := Lib.hid hu
  rw [Nat.zero_mul, Nat.add_zero] at c0 c1 c2 c3
  have hgw : g < w.heap.size := World.block_lt_of_cell? w _ c0
  clear hu hg hp
  obtain ⟨ho, h1, h2, hB⟩ := three_alloc w #[.int .u32 e0, .int .u32 e1, .int .u32 e2, .int .u32 e3] #[.int .u32 0, .int .u32 0, .int .u32 0, .int .u32 0] #[.int .u32 0, .int .u32 0, .int .u32 0, .int .u32 0] 39 39 39
  go_enter Tryd.func79, Tryd.ntmps79
  go_wp2_with fail
  have m0 := (hB.cell (p := ⟨g, o, none⟩) hgw).trans c0
  have m1 := (hB.cell (p := ⟨g, o + 1, none⟩) hgw).trans c1
  have m2 := (hB.cell (p := ⟨g, o + 2, none⟩) hgw).trans c2
  have m3 := (hB.cell (p := ⟨g, o + 3, none⟩) hgw).trans c3
  generalize (((w.alloc (.cells #[.int .u32 e0, .int .u32 e1, .int .u32 e2, .int .u32 e3] 39)).alloc (.cells #[.int .u32 0, .int .u32 0, .int .u32 0, .int .u32 0] 39)).alloc (.cells #[.int .u32 0, .int .u32 0, .int .u32 0, .int .u32 0] 39)) = X at ho h1 h2 hB m0 m1 m2 m3 ⊢
  have h1 : Bx X (w.heap.size + 1) 39 (wds [0, 0, 0, 0]) := h1
  have h2 : Bx X (w.heap.size + 1 + 1) 39 (wds [0, 0, 0, 0]) := h2
  obtain ⟨i0, i1, i2, i3⟩ := h1.w4c
  obtain ⟨j0, j1, j2, j3⟩ := h2.w4c
  obtain ⟨f0, f1, f2, f3⟩ := h1.w4f
  obtain ⟨g0, g1, g2, g3⟩ := h2.w4f
  have hg1 : g ≠ w.heap.size + 1 := by omega
  have hg2 : g ≠ w.heap.size + 1 + 1 := by omega
  clear hd c0 c1 c2 c3 ho
  go_region
  go_wp2_with fail
  have r1 := ((h1.set4 d0 d1 d2 d3).far4 (g := w.heap.size + 1 + 1) (by omega) d0 d1 d2 d3).drew
  have r2 := ((h2.far4 (g := w.heap.size + 1) (by omega) d0 d1 d2 d3).set4 d0 d1 d2 d3).drew
  refine bodyPost_ret (v := .tuple #[.agg (wds [d0, d1, d2, d3]), .agg (wds [d0, d1, d2, d3]), .bool true]) (results_rows rfl _ _ (w.heap.size + 1) (w.heap.size + 1 + 1) 39 39 _ _ (0, 0) (0, 0) _ rfl rfl rfl r1 r2 Tryd.underlying39 rfl (by kernel_rfl) (by kernel_rfl)) rfl ⟨d0, d1, d2, d3, d0, d1, d2, d3, ?_, ?_, rfl, (below_set4 (below_set4 hB (by omega) _ _ _ _) (by omega) _ _ _ _).drew⟩
  · show (onP _ _ _ _ _).1 = _
    rw [HU.out]
  · show (onP _ _ _ _ _).2.1 = _
    rw [HU.out]
theorem four_alloc (w : World) (C D E F : Array Value) (t u v x : TypeId) :
    Bx ((((w.alloc (.cells C t)).alloc (.cells D u)).alloc (.cells E v)).alloc (.cells F x)) w.heap.size t C ∧ Bx ((((w.alloc (.cells C t)).alloc (.cells D u)).alloc (.cells E v)).alloc (.cells F x)) (w.heap.size + 1) u D ∧ Bx ((((w.alloc (.cells C t)).alloc (.cells D u)).alloc (.cells E v)).alloc (.cells F x)) (w.heap.size + 1 + 1) v E ∧
    Bx ((((w.alloc (.cells C t)).alloc (.cells D u)).alloc (.cells E v)).alloc (.cells F x)) (w.heap.size + 1 + 1 + 1) x F ∧ Below w.heap.size w ((((w.alloc (.cells C t)).alloc (.cells D u)).alloc (.cells E v)).alloc (.cells F x)) := by
  obtain ⟨h1, h2, h3, h4⟩ := three_alloc w C D E t u v
  refine ⟨h1.alloc _, h2.alloc _, h3.alloc _, ?_, h4.alloc h4.size _⟩
  have := Bx.new (((w.alloc (.cells C t)).alloc (.cells D u)).alloc (.cells E v)) x F
  rw [World.size_alloc, World.size_alloc, World.size_alloc] at this
  exact this
set_option maxRecDepth 100000 in
set_option maxHeartbeats 4000000 in
theorem ron_any (N : Nat) : ∀ (p : Dl) (A : Option Addr) (q c m n : Nat) (b : Bool) (d0 d1 d2 d3 : Nat) (w : World), n ≤ N → 0 < m → m ≤ n → n ≤ 1000000 → q ≤ 1000000 → DS w A q c p → W4 [d0, d1, d2, d3] → (onP [d0, d1, d2, d3] m n b p).2.2 = true →
    Calls Tryd.prog 79 #[.agg #[.int .u32 d0, .int .u32 d1, .int .u32 d2, .int .u32 d3], .int .i64 (m : Nat), .int .i64 (n : Nat), .bool b, .slice A q c] w fun e w' => OnIs [d0, d1, d2, d3] m n b p w e w' := by
  induction N with
  | zero => intro p A q c m n b d0 d1 d2 d3 w hn h0 hm; omega
  | succ N ih =>
    intro p A q c m n b d0 d1 d2 d3 w hn h0 hm hn6 hq6 hd hw hok
    have hl := hd.len
    by_cases h1 : m = n
    · subst h1
      cases b with
      | true =>
        rw [on_whole _ _ _ _ (Nat.le_refl _)] at hok
        exact ron_whole p A q c m d0 d1 d2 d3 w hd (by simpa [hl] using hok)
      | false =>
        rw [on_cut _ _ _ _ (Nat.le_refl _)] at hok
        refine ron_cut p A q c m d0 d1 d2 d3 w hd ?_
        rw [hl] at hok
        split at hok
        · assumption
        · cases hok
    · have IH := Lib.hid ih
      clear ih
      have hmn : m < n := by omega
      obtain ⟨q, rfl⟩ : ∃ r, q = r + 1 := by
        rcases Nat.eq_zero_or_pos q with h | h
        · rw [List.eq_nil_of_length_eq_zero (by omega : p.length = 0), on_none _ _ _ _ hmn h0] at hok
          cases hok
        · exact ⟨q - 1, by omega⟩
      obtain ⟨g, o, l0, l1, l2, l3, rfl, hgl, hlw, c0, c1, c2, c3⟩ := hd.dig (k := q) (by omega)
      have hlast : p.getLastD [] = [l0, l1, l2, l3] := by rw [last_get, hl]; exact hgl
      have hdb : DS w (some ⟨g, o, none⟩) q c p.dropLast := ds_but hd
      have hcap := hd.cap
      have hgw : g < w.heap.size := World.block_lt_of_cell? w _ c0
      have e1 : ((m : Int) == n) = false := by simp; omega
      have hk1 := half_lt (n := n) (by omega)
      have hk2 := half_pos n
      have HL : Hid (m ≤ half n → onP [d0, d1, d2, d3] m n b p = ((onP [d0, d1, d2, d3] m (half n) b p.dropLast).1, pairD (onP [d0, d1, d2, d3] m (half n) b p.dropLast).2.1 [l0, l1, l2, l3], (onP [d0, d1, d2, d3] m (half n) b p.dropLast).2.2)) := by
        intro h
        rw [on_left _ _ _ _ _ hmn h0 (by omega) h, hlast]
      have HR : Hid (half n < m → onP [d0, d1, d2, d3] m n b p = (pairD [l0, l1, l2, l3] (onP [d0, d1, d2, d3] (m - half n) (n - half n) false p.dropLast).1, pairD [l0, l1, l2, l3] (onP [d0, d1, d2, d3] (m - half n) (n - half n) false p.dropLast).2.1, (onP [d0, d1, d2, d3] (m - half n) (n - half n) false p.dropLast).2.2)) := by
        intro h
        rw [on_right _ _ _ _ _ hmn h0 (by omega) h, hlast]
      have hpw := hd.wl.dropLast
      have hsl := sl42_h (some ⟨g, o, none⟩) (q + 1) c q (by omega)
      have HOK := Lib.hid hok
      obtain ⟨-, -, -, hBz⟩ := three_alloc w #[.int .u32 d0, .int .u32 d1, .int .u32 d2, .int .u32 d3] #[.int .u32 0, .int .u32 0, .int .u32 0, .int .u32 0] #[.int .u32 0, .int .u32 0, .int .u32 0, .int .u32 0] 39 39 39
      have t0 := (hBz.cell (p := ⟨g, o + q * 4, none⟩) hgw).trans c0
      have t1 := (hBz.cell (p := ⟨g, o + q * 4 + 1, none⟩) hgw).trans c1
      have t2 := (hBz.cell (p := ⟨g, o + q * 4 + 2, none⟩) hgw).trans c2
      have t3 := (hBz.cell (p := ⟨g, o + q * 4 + 3, none⟩) hgw).trans c3
      clear hl hgl hlast hd hok hBz
      go_enter Tryd.func79, Tryd.ntmps79
      go_wp2_with fail
      refine (rhalf_any n _ hn6).mono ?_
      rintro e w1 ⟨rfl, rfl⟩
      obtain ⟨k, hk⟩ : ∃ k, k = half n := ⟨_, rfl⟩
      rw [← hk] at hk1 hk2 HR HL ⊢
      clear hk
      obtain ⟨hl0, h10, h20, hs0, hB0⟩ := four_alloc w #[.int .u32 d0, .int .u32 d1, .int .u32 d2, .int .u32 d3] #[.int .u32 0, .int .u32 0, .int .u32 0, .int .u32 0] #[.int .u32 0, .int .u32 0, .int .u32 0, .int .u32 0] #[.int .u32 l0, .int .u32 l1, .int .u32 l2, .int .u32 l3] 39 39 39 39
      have hdb0 := hdb.below hB0
      generalize ((((w.alloc (.cells #[.int .u32 d0, .int .u32 d1, .int .u32 d2, .int .u32 d3] 39)).alloc (.cells #[.int .u32 0, .int .u32 0, .int .u32 0, .int .u32 0] 39)).alloc (.cells #[.int .u32 0, .int .u32 0, .int .u32 0, .int .u32 0] 39)).alloc (.cells #[.int .u32 l0, .int .u32 l1, .int .u32 l2, .int .u32 l3] 39)) = X at hl0 h10 h20 hs0 hB0 hdb0 ⊢
      have hl0 : Bx X w.heap.size 39 (wds [d0, d1, d2, d3]) := hl0
      have h10 : Bx X (w.heap.size + 1) 39 (wds [0, 0, 0, 0]) := h10
      have h20 : Bx X (w.heap.size + 1 + 1) 39 (wds [0, 0, 0, 0]) := h20
      have hs0 : Bx X (w.heap.size + 1 + 1 + 1) 39 (wds [l0, l1, l2, l3]) := hs0
      obtain ⟨m0, m1, m2, m3⟩ := hl0.w4c
      have hok := HOK.out
      clear hdb c0 c1 c2 c3 t0 t1 t2 t3
      by_cases hik : m ≤ k
      · skip
        have hu := HL.out hik
        have hR : (onP [d0, d1, d2, d3] m k b p.dropLast).2.2 = true := by rw [hu] at hok; exact hok
        have HW := Lib.hid hu
        clear hu hok
        go_wp2_with fail
        refine (IH.out p.dropLast (some ⟨g, o, none⟩) q c m k b d0 d1 d2 d3 X (by omega) h0 hik (by omega) (by omega) hdb0 hw hR).mono ?_
        rintro e w1 ⟨x0, x1, x2, x3, y0, y1, y2, y3, hx, hy, rfl, hb1⟩
        have hxy := on_w4 [d0, d1, d2, d3] m k b p.dropLast h0 hw hpw
        have hxw : W4 [x0, x1, x2, x3] := by rw [← hx.out]; exact hxy.1
        have hyw : W4 [y0, y1, y2, y3] := by rw [← hy.out]; exact hxy.2
        have hB1 := hB0.trans (hb1.mono hB0.size)
        have hr1 := h10.belowS hb1
        have hr2 := h20.belowS hb1
        have hl1 := hs0.belowS hb1
        obtain ⟨hxa, hya, hBa⟩ := two_alloc w1 #[.int .u32 x0, .int .u32 x1, .int .u32 x2, .int .u32 x3] #[.int .u32 y0, .int .u32 y1, .int .u32 y2, .int .u32 y3] 39 39
        have hB2 := hB1.trans (hBa.mono hB1.size)
        have hr12 := hr1.belowS hBa
        have hr22 := hr2.belowS hBa
        have hl2 := hl1.belowS hBa
        have zl := hl1.lt
        have zB := hB1.size
        clear hxy hl0 h10 h20 hs0 hdb0 hb1 hr1 hr2 hl1 m0 m1 m2 m3
        go_wp2_with fail
        generalize ((w1.alloc (.cells #[.int .u32 x0, .int .u32 x1, .int .u32 x2, .int .u32 x3] 39)).alloc (.cells #[.int .u32 y0, .int .u32 y1, .int .u32 y2, .int .u32 y3] 39)) = Y at hxa hya hB2 hr12 hr22 hl2 ⊢
        obtain ⟨xb, hxb⟩ : ∃ xb, xb = w1.heap.size := ⟨_, rfl⟩
        rw [← hxb] at hxa hya zl zB ⊢
        obtain ⟨yb, hyb⟩ : ∃ yb, yb = xb + 1 := ⟨_, rfl⟩
        rw [← hyb] at hya ⊢
        have hxa : Bx Y xb 39 (wds [x0, x1, x2, x3]) := hxa
        have hya : Bx Y yb 39 (wds [y0, y1, y2, y3]) := hya
        clear hxb hBa hB1
        obtain ⟨s0, s1, s2, s3⟩ := hxa.w4c
        obtain ⟨t0, t1, t2, t3⟩ := hya.w4c
        obtain ⟨v0, v1, v2, v3⟩ := hl2.w4c
        obtain ⟨i0, i1, i2, i3⟩ := hr12.w4c
        obtain ⟨j0, j1, j2, j3⟩ := hr22.w4c
        obtain ⟨f0, f1, f2, f3⟩ := hr12.w4f
        obtain ⟨g0, g1, g2, g3⟩ := hr22.w4f
        have n1 : w.heap.size + 1 + 1 ≠ w.heap.size + 1 := by omega
        have n2 : xb ≠ w.heap.size + 1 := by omega
        have n3 : xb ≠ w.heap.size + 1 + 1 := by omega
        have n4 : yb ≠ w.heap.size + 1 := by omega
        have n5 : yb ≠ w.heap.size + 1 + 1 := by omega
        have n6 := n2.symm
        have n7 := n3.symm
        have n8 := n4.symm
        have n9 := n5.symm
        clear hyb zl
        go_region_held3 (fun X : World => X.cell? ⟨xb, 0, none⟩ = some (.int .u32 (x0 : Nat)) ∧ X.cell? ⟨xb, 1, none⟩ = some (.int .u32 (x1 : Nat)) ∧ X.cell? ⟨xb, 2, none⟩ = some (.int .u32 (x2 : Nat)) ∧ X.cell? ⟨xb, 3, none⟩ = some (.int .u32 (x3 : Nat)) ∧ X.cell? ⟨yb, 0, none⟩ = some (.int .u32 (y0 : Nat)) ∧ X.cell? ⟨yb, 1, none⟩ = some (.int .u32 (y1 : Nat)) ∧ X.cell? ⟨yb, 2, none⟩ = some (.int .u32 (y2 : Nat)) ∧ X.cell? ⟨yb, 3, none⟩ = some (.int .u32 (y3 : Nat)) ∧ X.cell? ⟨w.heap.size + 1 + 1 + 1, 0, none⟩ = some (.int .u32 (l0 : Nat)) ∧ X.cell? ⟨w.heap.size + 1 + 1 + 1, 1, none⟩ = some (.int .u32 (l1 : Nat)) ∧ X.cell? ⟨w.heap.size + 1 + 1 + 1, 2, none⟩ = some (.int .u32 (l2 : Nat)) ∧ X.cell? ⟨w.heap.size + 1 + 1 + 1, 3, none⟩ = some (.int .u32 (l3 : Nat))) (go_keep) (first
          | (go_at_call 102; refine (rpair_any y0 y1 y2 y3 l0 l1 l2 l3 _ hyw hlw).mono ?_; rintro e w3 ⟨z0, z1, z2, z3, hz, rfl, hb3⟩; have hxa3 := hxa.drew.belowS hb3; have hya3 := hya.drew.belowS hb3; have hl3 := hl2.drew.belowS hb3; have hr13 := hr12.drew.belowS hb3; have hr23 := hr22.drew.belowS hb3; have hB3 := hB2.drew.trans (hb3.mono hB2.size); obtain ⟨a30, a31, a32, a33⟩ := hxa3.w4c; obtain ⟨b30, b31, b32, b33⟩ := hya3.w4c; obtain ⟨c30, c31, c32, c33⟩ := hl3.w4c; obtain ⟨d30, d31, d32, d33⟩ := hr13.w4c; obtain ⟨e30, e31, e32, e33⟩ := hr23.w4c; obtain ⟨f30, f31, f32, f33⟩ := hr13.w4f; obtain ⟨g30, g31, g32, g33⟩ := hr23.w4f))
        all_goals
          go_wp2_with fail
          have r1 := (hr13.set4 x0 x1 x2 x3).far4 (g := w.heap.size + 1 + 1) (by omega) z0 z1 z2 z3
          have r2 := (hr23.far4 (g := w.heap.size + 1) (by omega) x0 x1 x2 x3).set4 z0 z1 z2 z3
          refine bodyPost_ret (v := .tuple #[.agg (wds [x0, x1, x2, x3]), .agg (wds [z0, z1, z2, z3]), .bool true]) (results_rows rfl _ _ (w.heap.size + 1) (w.heap.size + 1 + 1) 39 39 _ _ (0, 0) (0, 0) _ rfl rfl rfl r1 r2 Tryd.underlying39 rfl (by kernel_rfl) (by kernel_rfl)) rfl ⟨x0, x1, x2, x3, z0, z1, z2, z3, ?_, ?_, rfl, below_set4 (below_set4 hB3 (by omega) _ _ _ _) (by omega) _ _ _ _⟩
          · show (onP _ _ _ _ _).1 = _
            rw [HW.out]
            exact hx.out
          · show (onP _ _ _ _ _).2.1 = _
            rw [HW.out]
            show pairD _ _ = _; rw [hy.out]; exact hz.out
      · skip
        have hu := HR.out (by omega)
        have hR0 : (onP [d0, d1, d2, d3] (m - k) (n - k) false p.dropLast).2.2 = true := by rw [hu] at hok; exact hok
        obtain ⟨j, hj⟩ : ∃ j : Nat, (m : Int) - (k : Int) = (j : Int) := ⟨m - k, by omega⟩
        obtain ⟨nn, hnn⟩ : ∃ j : Nat, (n : Int) - (k : Int) = (j : Int) := ⟨n - k, by omega⟩
        have hjk : j = m - k := by omega
        have hnk : nn = n - k := by omega
        rw [← hjk, ← hnk] at hu hR0
        have HW := Lib.hid hu
        have hj0 : 0 < j := by omega
        have hjn : j ≤ nn := by omega
        have hwj : IntKind.i64.wrap (j : Int) = (j : Int) := IntWalk.i64_in _ (by omega)
        have hwn : IntKind.i64.wrap (nn : Int) = (nn : Int) := IntWalk.i64_in _ (by omega)
        have hnn6 : nn ≤ N := by omega
        have hki : (k : Int) < (m : Int) := by omega
        clear hu hjk hnk hok
        go_wp2_with fail
        refine (IH.out p.dropLast (some ⟨g, o, none⟩) q c j nn false d0 d1 d2 d3 X hnn6 hj0 hjn (by omega) (by omega) hdb0 hw hR0).mono ?_
        rintro e w1 ⟨x0, x1, x2, x3, y0, y1, y2, y3, hx, hy, rfl, hb1⟩
        have hxy := on_w4 [d0, d1, d2, d3] j nn false p.dropLast hj0 hw hpw
        have hxw : W4 [x0, x1, x2, x3] := by rw [← hx.out]; exact hxy.1
        have hyw : W4 [y0, y1, y2, y3] := by rw [← hy.out]; exact hxy.2
        have hB1 := hB0.trans (hb1.mono hB0.size)
        have hr1 := h10.belowS hb1
        have hr2 := h20.belowS hb1
        have hl1 := hs0.belowS hb1
        obtain ⟨hxa, hya, hBa⟩ := two_alloc w1 #[.int .u32 x0, .int .u32 x1, .int .u32 x2, .int .u32 x3] #[.int .u32 y0, .int .u32 y1, .int .u32 y2, .int .u32 y3] 39 39
        have hB2 := hB1.trans (hBa.mono hB1.size)
        have hr12 := hr1.belowS hBa
        have hr22 := hr2.belowS hBa
        have hl2 := hl1.belowS hBa
        have zl := hl1.lt
        have zB := hB1.size
        clear hxy hl0 h10 h20 hs0 hdb0 hb1 hr1 hr2 hl1 m0 m1 m2 m3
        go_wp2_with fail
        generalize ((w1.alloc (.cells #[.int .u32 x0, .int .u32 x1, .int .u32 x2, .int .u32 x3] 39)).alloc (.cells #[.int .u32 y0, .int .u32 y1, .int .u32 y2, .int .u32 y3] 39)) = Y at hxa hya hB2 hr12 hr22 hl2 ⊢
        obtain ⟨xb, hxb⟩ : ∃ xb, xb = w1.heap.size := ⟨_, rfl⟩
        rw [← hxb] at hxa hya zl zB ⊢
        obtain ⟨yb, hyb⟩ : ∃ yb, yb = xb + 1 := ⟨_, rfl⟩
        rw [← hyb] at hya ⊢
        have hxa : Bx Y xb 39 (wds [x0, x1, x2, x3]) := hxa
        have hya : Bx Y yb 39 (wds [y0, y1, y2, y3]) := hya
        clear hxb hBa hB1
        obtain ⟨s0, s1, s2, s3⟩ := hxa.w4c
        obtain ⟨t0, t1, t2, t3⟩ := hya.w4c
        obtain ⟨v0, v1, v2, v3⟩ := hl2.w4c
        obtain ⟨i0, i1, i2, i3⟩ := hr12.w4c
        obtain ⟨j0, j1, j2, j3⟩ := hr22.w4c
        obtain ⟨f0, f1, f2, f3⟩ := hr12.w4f
        obtain ⟨g0, g1, g2, g3⟩ := hr22.w4f
        have n1 : w.heap.size + 1 + 1 ≠ w.heap.size + 1 := by omega
        have n2 : xb ≠ w.heap.size + 1 := by omega
        have n3 : xb ≠ w.heap.size + 1 + 1 := by omega
        have n4 : yb ≠ w.heap.size + 1 := by omega
        have n5 : yb ≠ w.heap.size + 1 + 1 := by omega
        have n6 := n2.symm
        have n7 := n3.symm
        have n8 := n4.symm
        have n9 := n5.symm
        clear hyb zl
        go_region_held3 (fun X : World => X.cell? ⟨xb, 0, none⟩ = some (.int .u32 (x0 : Nat)) ∧ X.cell? ⟨xb, 1, none⟩ = some (.int .u32 (x1 : Nat)) ∧ X.cell? ⟨xb, 2, none⟩ = some (.int .u32 (x2 : Nat)) ∧ X.cell? ⟨xb, 3, none⟩ = some (.int .u32 (x3 : Nat)) ∧ X.cell? ⟨yb, 0, none⟩ = some (.int .u32 (y0 : Nat)) ∧ X.cell? ⟨yb, 1, none⟩ = some (.int .u32 (y1 : Nat)) ∧ X.cell? ⟨yb, 2, none⟩ = some (.int .u32 (y2 : Nat)) ∧ X.cell? ⟨yb, 3, none⟩ = some (.int .u32 (y3 : Nat)) ∧ X.cell? ⟨w.heap.size + 1 + 1 + 1, 0, none⟩ = some (.int .u32 (l0 : Nat)) ∧ X.cell? ⟨w.heap.size + 1 + 1 + 1, 1, none⟩ = some (.int .u32 (l1 : Nat)) ∧ X.cell? ⟨w.heap.size + 1 + 1 + 1, 2, none⟩ = some (.int .u32 (l2 : Nat)) ∧ X.cell? ⟨w.heap.size + 1 + 1 + 1, 3, none⟩ = some (.int .u32 (l3 : Nat))) (go_keep) (first
          | (go_at_call 102; have hu33 := hu3; refine (rpair_any l0 l1 l2 l3 y0 y1 y2 y3 _ hlw hyw).mono ?_; rintro e w4 ⟨z0, z1, z2, z3, hz, rfl, hb4⟩; have hxa4 := hxa3.belowS hb4; have hya4 := hya3.belowS hb4; have hl4 := hl3.belowS hb4; have hr14 := hr13.belowS hb4; have hr24 := hr23.belowS hb4; have hB4 := hB3.trans (hb4.mono hB3.size); obtain ⟨a40, a41, a42, a43⟩ := hxa4.w4c; obtain ⟨b40, b41, b42, b43⟩ := hya4.w4c; obtain ⟨c40, c41, c42, c43⟩ := hl4.w4c; obtain ⟨d40, d41, d42, d43⟩ := hr14.w4c; obtain ⟨e40, e41, e42, e43⟩ := hr24.w4c; obtain ⟨f40, f41, f42, f43⟩ := hr14.w4f; obtain ⟨g40, g41, g42, g43⟩ := hr24.w4f)
          | (go_at_call 102; refine (rpair_any l0 l1 l2 l3 x0 x1 x2 x3 _ hlw hxw).mono ?_; rintro e w3 ⟨u0, u1, u2, u3, hu3, rfl, hb3⟩; have hxa3 := hxa.drew.belowS hb3; have hya3 := hya.drew.belowS hb3; have hl3 := hl2.drew.belowS hb3; have hr13 := hr12.drew.belowS hb3; have hr23 := hr22.drew.belowS hb3; have hB3 := hB2.drew.trans (hb3.mono hB2.size); obtain ⟨a30, a31, a32, a33⟩ := hxa3.w4c; obtain ⟨b30, b31, b32, b33⟩ := hya3.w4c; obtain ⟨c30, c31, c32, c33⟩ := hl3.w4c; obtain ⟨d30, d31, d32, d33⟩ := hr13.w4c; obtain ⟨e30, e31, e32, e33⟩ := hr23.w4c; obtain ⟨f30, f31, f32, f33⟩ := hr13.w4f; obtain ⟨g30, g31, g32, g33⟩ := hr23.w4f))
        all_goals
          go_wp2_with fail
          have r1 := (hr14.set4 u0 u1 u2 u3).far4 (g := w.heap.size + 1 + 1) (by omega) z0 z1 z2 z3
          have r2 := (hr24.far4 (g := w.heap.size + 1) (by omega) u0 u1 u2 u3).set4 z0 z1 z2 z3
          refine bodyPost_ret (v := .tuple #[.agg (wds [u0, u1, u2, u3]), .agg (wds [z0, z1, z2, z3]), .bool true]) (results_rows rfl _ _ (w.heap.size + 1) (w.heap.size + 1 + 1) 39 39 _ _ (0, 0) (0, 0) _ rfl rfl rfl r1 r2 Tryd.underlying39 rfl (by kernel_rfl) (by kernel_rfl)) rfl ⟨u0, u1, u2, u3, z0, z1, z2, z3, ?_, ?_, rfl, below_set4 (below_set4 hB4 (by omega) _ _ _ _) (by omega) _ _ _ _⟩
          · show (onP _ _ _ _ _).1 = _
            rw [HW.out]
            show pairD _ _ = _; rw [hx.out]; exact hu3.out
          · show (onP _ _ _ _ _).2.1 = _
            rw [HW.out]
            show pairD _ _ = _; rw [hy.out]; exact hz.out
set_option maxRecDepth 100000 in
set_option maxHeartbeats 1000000 in
theorem rcheckon_any (o0 o1 o2 o3 m r0 r1 r2 r3 n : Nat) (p : Dl) (A : Option Addr) (q c : Nat) (w : World) (hn : n ≤ 1000) (h0 : 0 < m) (hm : m ≤ n) (hq : q ≤ 20) (hd : DS w A q c p) (hw : W4 [o0, o1, o2, o3]) (hok : onP [o0, o1, o2, o3] m n true p = ([o0, o1, o2, o3], [r0, r1, r2, r3], true)) :
    Calls Tryd.prog 48 #[.agg #[.int .u32 o0, .int .u32 o1, .int .u32 o2, .int .u32 o3], .int .i64 (m : Nat), .agg #[.int .u32 r0, .int .u32 r1, .int .u32 r2, .int .u32 r3], .int .i64 (n : Nat), .slice A q c] w fun e w' =>
      e = .returned (.bool true) ∧ Below w.heap.size w w' := by
  have hn2 : (n : Int) ≤ 1000 := by omega
  have hm1 : (1 : Int) ≤ (m : Int) := by omega
  have hm2 : (m : Int) ≤ (n : Int) := by omega
  have hm3 : (q : Int) ≤ 20 := by omega
  go_enter Tryd.func48, Tryd.ntmps48
  obtain ⟨ho0, hr0, hB0⟩ := two_alloc w (wds [o0, o1, o2, o3]) (wds [r0, r1, r2, r3]) 39 39
  go_wp2_with fail
  refine (ron_any n p A q c m n true o0 o1 o2 o3 _ (Nat.le_refl _) h0 hm (by omega) (by omega) (hd.below hB0) hw (by rw [hok])).mono ?_
  rintro e w1 ⟨x0, x1, x2, x3, y0, y1, y2, y3, hx, hy, rfl, hb1⟩
  have hB1 := hB0.trans (hb1.mono hB0.size)
  have ho1 := ho0.belowS hb1
  have hr1 := hr0.belowS hb1
  obtain ⟨k0, k1, k2, k3⟩ := ho1.w4c
  obtain ⟨j0, j1, j2, j3⟩ := hr1.w4c
  have zr := ho1.lt
  have zr1 := hr1.lt
  have hxo : [x0, x1, x2, x3] = [o0, o1, o2, o3] := by rw [← hx.out, hok]
  have hyr : [y0, y1, y2, y3] = [r0, r1, r2, r3] := by rw [← hy.out, hok]
  simp only [List.cons.injEq, and_true] at hxo hyr
  obtain ⟨rfl, rfl, rfl, rfl⟩ := hxo
  obtain ⟨rfl, rfl, rfl, rfl⟩ := hyr
  have heq := eq_dig x0 x1 x2 x3 x0 x1 x2 x3
  have heq2 := eq_dig y0 y1 y2 y3 y0 y1 y2 y3
  rw [decide_eq_true rfl] at heq heq2
  clear hb1 ho0 hr0 hB0 ho1 hr1 hok
  go_wp2_with fail
  go_ret
  exact ⟨rfl, (hB1.alloc hB1.size _).alloc (hB1.alloc hB1.size _).size _⟩
end Go.Proofs.YtgpohndnkecbeaaDoor
