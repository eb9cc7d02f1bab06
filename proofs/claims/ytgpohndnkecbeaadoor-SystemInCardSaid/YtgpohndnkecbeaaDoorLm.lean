/- Contracts: merkle.stack's pop, up, done; slices.Clone of digests; merkle.Check. The law SystemIn, walked. -/
import Derived.Test.YtgpohndnkecbeaaDoorTe
import Derived.Test.YtgpohndnkecbeaaDoorKc
import Derived.Deep.AppendLies
import Derived.Lib.BufferOwn
import Derived.Test.YtgpohndnkecbeaaDoorTi
namespace Go.Proofs.YtgpohndnkecbeaaDoor
open Go Go.RowKit Go.Proofs.Sc
/-- All blocks that were there are as they were, but one. -/
abbrev Aside (gs : Nat) (w w' : World) : Prop := w.grownBy w' (some gs)
theorem aside_refl (gs : Nat) (w : World) : Aside gs w w := World.grownBy.refl w _
theorem aside_trans {gs : Nat} {a b c : World} (h : Aside gs a b) (k : Aside gs b c) : Aside gs a c := Lib.grownBy_trans h k
theorem aside_below {gs : Nat} {a b c : World} (h : Aside gs a b) (k : Below b.heap.size b c) : Aside gs a c := Lib.grownBy_below h k
theorem aside_alloc {gs : Nat} {a b : World} (h : Aside gs a b) (o : Obj) : Aside gs a (b.alloc o) := Lib.grownBy_allocR h o
theorem aside_drew {gs : Nat} {a b : World} (h : Aside gs a b) : Aside gs a b.drew := ⟨h.os, h.tape, h.output, h.size, h.block⟩
theorem aside_set {gs : Nat} {a b : World} (h : Aside gs a b) (i : Nat) (v : Value) : Aside gs a (b.setCell ⟨gs, i, none⟩ v) := Lib.grownBy_setB h i v
theorem aside_new {gs : Nat} {a b : World} (h : Aside gs a b) {p : Addr} (hp : a.heap.size ≤ p.block) (v : Value) : Aside gs a (b.setCell p v) :=
  ⟨h.os, h.tape, h.output, by simpa using h.size, fun i hi hne => by rw [Below.heap_setCell b p v i (by omega)]; exact h.block i hi hne⟩
theorem aside_far {gs g : Nat} {w w' : World} {t : TypeId} {cs : Array Value} (h : Bx w g t cs) (hb : Aside gs w w') (hg : g ≠ gs) : Bx w' g t cs := h.grown hb (fun e => hg (by injection e))
theorem aside_turns {gs : Nat} {w w' : World} (h : Turns w) (hb : Aside gs w w') (hg : gs ≠ 0) : Turns w' := by
  have hl := h.lt
  obtain ⟨tt, fr, h⟩ := h
  exact ⟨tt, fr, (hb.block 0 hl (fun e => hg (by injection e with e; exact e.symm))).trans h⟩
theorem aside_rs {gs n size : Nat} {w w' : World} {A : Option Addr} {xs : List Value} (h : Rs w A n size xs) (hb : Aside gs w w') (hA : ∀ a, A = some a → a.block ≠ gs) : Rs w' A n size xs :=
  ⟨h.1, fun hn => by
    obtain ⟨g, o, e, hc⟩ := h.2 hn
    refine ⟨g, o, e, fun j u hu => ?_⟩
    have hj := hc j u hu
    rw [hb.cell_far ⟨g, o + j, none⟩ (World.block_lt_of_cell? w _ hj) (fun e2 => hA _ e (by injection e2))]
    exact hj⟩
theorem aside_ds {gs n c : Nat} {w w' : World} {A : Option Addr} {l : Dl} (h : DS w A n c l) (hb : Aside gs w w') (hA : ∀ a, A = some a → a.block ≠ gs) : DS w' A n c l :=
  ⟨aside_rs h.rs hb hA, h.wl, h.len, h.cap, h.max⟩
set_option maxRecDepth 100000 in
set_option maxHeartbeats 1000000 in
theorem pop_any (p : Dl) (A : Option Addr) (m q c gs : Nat) (b : Bool) (w : World) (hm : m = q + 1) (hd : DS w A m c p) (hA : ∀ a, A = some a → a.block ≠ gs) (hs : Bx w gs 104 #[.slice A m c, .bool b]) (hq : q ≤ 1000000) :
    Calls Tryd.prog 100 #[.pointer (some ⟨gs, 0, none⟩)] w fun e w' => ∃ x0 x1 x2 x3 : Nat, Hid (p.getLastD [] = [x0, x1, x2, x3]) ∧ W4 [x0, x1, x2, x3] ∧ e = .returned (.agg #[.int .u32 x0, .int .u32 x1, .int .u32 x2, .int .u32 x3]) ∧ Bx w' gs 104 #[.slice A q c, .bool b] ∧ Aside gs w w' := by
  have hl := hd.len
  obtain ⟨g, o, l0, l1, l2, l3, rfl, hgl, hlw, c0, c1, c2, c3⟩ := hd.dig (k := q) (by omega)
  have hlast : p.getLastD [] = [l0, l1, l2, l3] := by rw [last_get, hl, hm]; exact hgl
  have HLA := Lib.hid hlast
  have hgg : g ≠ gs := hA _ rfl
  have hgw : g < w.heap.size := World.block_lt_of_cell? w _ c0
  have hsw := hs.lt
  have hcap := hd.cap
  have hsl := sl42_h (some ⟨g, o, none⟩) m c q (by omega)
  have hB0 : Below w.heap.size w (w.alloc (.cells #[.int .u32 0, .int .u32 0, .int .u32 0, .int .u32 0] 39)) := (Below.refl _ _).alloc (Nat.le_refl _) _
  have hr0 : Bx (w.alloc (.cells #[.int .u32 0, .int .u32 0, .int .u32 0, .int .u32 0] 39)) w.heap.size 39 (wds [0, 0, 0, 0]) := Bx.new _ _ _
  have s0 : w.cell? ⟨gs, 0, none⟩ = some (.slice (some ⟨g, o, none⟩) m c) := hs.cell 0
  have hs0 := hs.belowS hB0
  have t0 : (w.alloc (.cells #[.int .u32 0, .int .u32 0, .int .u32 0, .int .u32 0] 39)).cell? ⟨gs, 0, none⟩ = some (.slice (some ⟨g, o, none⟩) m c) := hs0.cell 0
  have i1 : (m : Int) - 1 = (q : Int) := by omega
  have i2 : (q : Int) < (m : Int) := by omega
  have i3 : ((m : Int) == 0) = false := by simp; omega
  have i4 : IntKind.i64.wrap (q : Int) = (q : Int) := IntWalk.i64_in _ (by omega)
  clear hl hgl hlast hd hA hm
  go_enter Tryd.func100, Tryd.ntmps100
  go_wp2_with fail
  have m0 := (hB0.cell (p := ⟨g, o + q * 4, none⟩) hgw).trans c0
  have m1 := (hB0.cell (p := ⟨g, o + q * 4 + 1, none⟩) hgw).trans c1
  have m2 := (hB0.cell (p := ⟨g, o + q * 4 + 2, none⟩) hgw).trans c2
  have m3 := (hB0.cell (p := ⟨g, o + q * 4 + 3, none⟩) hgw).trans c3
  generalize (w.alloc (.cells #[.int .u32 0, .int .u32 0, .int .u32 0, .int .u32 0] 39)) = W at hB0 hr0 hs0 t0 m0 m1 m2 m3 ⊢
  have f0 := hs0.frozen 0
  have k1 : g ≠ W.heap.size := by have := hr0.lt; omega
  have k2 : gs ≠ W.heap.size := by have := hr0.lt; omega
  clear c0 c1 c2 c3 s0
  go_region_held3 (fun X : World => X.cell? ⟨gs, 0, none⟩ = some (.slice (some ⟨g, o, none⟩) m c) ∧ X.cell? ⟨g, o + q * 4, none⟩ = some (.int .u32 (l0 : Nat)) ∧ X.cell? ⟨g, o + q * 4 + 1, none⟩ = some (.int .u32 (l1 : Nat)) ∧ X.cell? ⟨g, o + q * 4 + 2, none⟩ = some (.int .u32 (l2 : Nat)) ∧ X.cell? ⟨g, o + q * 4 + 3, none⟩ = some (.int .u32 (l3 : Nat))) (go_keep) (fail)
  all_goals
    have hB1 := (hB0.alloc hB0.size (.cells #[.int .u32 l0, .int .u32 l1, .int .u32 l2, .int .u32 l3] 39)).drew
    have hr1 := (hr0.alloc (.cells #[.int .u32 l0, .int .u32 l1, .int .u32 l2, .int .u32 l3] 39)).drew
    have hs1 := (hs0.alloc (.cells #[.int .u32 l0, .int .u32 l1, .int .u32 l2, .int .u32 l3] 39)).drew
    have hd1 : Bx (W.alloc (.cells #[.int .u32 l0, .int .u32 l1, .int .u32 l2, .int .u32 l3] 39)).drew W.heap.size 39 (wds [l0, l1, l2, l3]) := (Bx.new _ _ _).drew
    have k3 : w.heap.size ≠ W.heap.size := by have := hr0.lt; omega
    generalize (W.alloc (.cells #[.int .u32 l0, .int .u32 l1, .int .u32 l2, .int .u32 l3] 39)).drew = V at hB1 hr1 hs1 hd1 ⊢
    obtain ⟨db, hdb⟩ : ∃ db, db = W.heap.size := ⟨_, rfl⟩
    rw [← hdb] at hd1 k1 k2 k3 ⊢
    have k4 : w.heap.size ≠ gs := by omega
    have k5 := k4.symm
    have k6 := k2.symm
    have k7 := k3.symm
    clear hdb hB0 hr0 hs0 t0 m0 m1 m2 m3 f0
    have t0 : V.cell? ⟨gs, 0, none⟩ = some (.slice (some ⟨g, o, none⟩) m c) := hs1.cell 0
    have f0 := hs1.frozen 0
    obtain ⟨a0, a1, a2, a3⟩ := hd1.w4c
    obtain ⟨b0, b1, b2, b3⟩ := hr1.w4c
    obtain ⟨e0, e1, e2, e3⟩ := hr1.w4f
    go_wp2_with fail
    go_region
    all_goals
      have hA1 : Aside gs w (V.setCell ⟨gs, 0, none⟩ (.slice (some ⟨g, o, none⟩) q c)).drew := aside_drew (aside_set (aside_below (aside_refl gs w) hB1) 0 _)
      have hs2 : Bx (V.setCell ⟨gs, 0, none⟩ (.slice (some ⟨g, o, none⟩) q c)).drew gs 104 #[.slice (some ⟨g, o, none⟩) q c, .bool b] := (hs1.set 0 _).drew
      have hd2 := (hd1.far (p := ⟨gs, 0, none⟩) k6 (.slice (some ⟨g, o, none⟩) q c)).drew
      have hr2 := (hr1.far (p := ⟨gs, 0, none⟩) k4 (.slice (some ⟨g, o, none⟩) q c)).drew
      generalize (V.setCell ⟨gs, 0, none⟩ (.slice (some ⟨g, o, none⟩) q c)).drew = U at hA1 hs2 hd2 hr2 ⊢
      clear hB1 hr1 hs1 hd1 t0 f0 a0 a1 a2 a3 b0 b1 b2 b3 e0 e1 e2 e3
      obtain ⟨a0, a1, a2, a3⟩ := hd2.w4c
      obtain ⟨b0, b1, b2, b3⟩ := hr2.w4c
      obtain ⟨e0, e1, e2, e3⟩ := hr2.w4f
      go_wp2_with fail
      have hfin := hr2.set4 l0 l1 l2 l3
      refine bodyPost_ret (v := .agg (wds [l0, l1, l2, l3])) (results_cell_row rfl _ _ w.heap.size 39 _ (0, 0) _ rfl hfin Tryd.underlying39 rfl (by kernel_rfl)) rfl ⟨l0, l1, l2, l3, HLA, hlw, rfl, hs2.far4 k5 _ _ _ _, ?_⟩
      have hz : ∀ j, w.heap.size ≤ (⟨w.heap.size, j, none⟩ : Addr).block := fun j => Nat.le_refl _
      exact aside_new (aside_new (aside_new (aside_new hA1 (hz 0) _) (hz 1) _) (hz 2) _) (hz 3) _
set_option maxRecDepth 100000 in
theorem done_any (A : Option Addr) (c gs : Nat) (w : World) (hs : Bx w gs 104 #[.slice A 0 c, .bool true]) :
    Calls Tryd.prog 72 #[.pointer (some ⟨gs, 0, none⟩)] w fun e w' => e = .returned (.bool true) ∧ w = w' := by
  have s0 : w.cell? ⟨gs, 0, none⟩ = some (.slice A 0 c) := hs.cell 0
  have s1 : w.cell? ⟨gs, 1, none⟩ = some (.bool true) := hs.cell 1
  go_enter Tryd.func72, Tryd.ntmps72
  go_wp2_with fail
  go_ret
  exact ⟨rfl, rfl⟩
theorem run_empty42 (W : World) : (Instr.buildSlice 42 0 #[]).run Tryd.prog W = .ok (.slice (some ⟨W.heap.size, 0, none⟩) 0 0) (W.alloc (.cells #[] 39)) := by
  have hf : Instr.fill (fun i => some (i * 4, 4)) (Array.map (fun _ => (default : Value)) (Array.range 0)) [] = some #[] := by simp [Instr.fill]
  simp [Instr.buildSlice, run_underlying Tryd.underlying42, hf, newRow]
set_option maxRecDepth 100000 in
set_option maxHeartbeats 1000000 in
theorem clone_any (p : Dl) (A : Option Addr) (n c : Nat) (w : World) (hd : DS w A n c p) (hn : n ≤ 1000000) :
    Calls Tryd.prog 70 #[.slice A n c] w fun e w' => ∃ v, e = .returned v ∧ w'.ownsRow w.heap.size 39 4 v n (vd p) ∧ Below w.heap.size w w' := by
  cases A with
  | none =>
    have hn0 : n = 0 := by
      rcases Nat.eq_zero_or_pos n with h | h
      · exact h
      · obtain ⟨g, o, e, -⟩ := hd.rs.2 h
        cases e
    subst hn0
    obtain rfl : p = [] := List.eq_nil_of_length_eq_zero hd.len
    have q42 : ∀ (w : World), (binOp .eql 42 (.slice none 0 c) (.slice none 0 0)).run Tryd.prog w = .ok (.bool true) w := fun w => Lib.run_eql_slice_nil w _ _ none 0 c 0 0 Tryd.underlying42
    go_enter Tryd.func70, Tryd.ntmps70
    go_wp2_with fail
    go_ret
    exact ⟨_, rfl, World.ownsRow_nil _ _ _ _, Below.refl _ _⟩
  | some a =>
    have hr := hd.rs
    have hone : ∀ u ∈ vd p, u.oneCell' = true := vw_one _
    have hl16 : (0 + n) * 16 ≤ 140737488355328 := by omega
    have b0 : Below w.heap.size w (w.alloc (.cells #[] 39)) := (Below.refl _ _).alloc (Nat.le_refl _) _
    have hbs := run_empty42 w
    have hr0 := hr.below b0
    have hoe := own_empty w 39 4
    have q42 : ∀ (w : World), (binOp .eql 42 (.slice (some a) n c) (.slice none 0 0)).run Tryd.prog w = .ok (.bool false) w := fun w => Lib.run_eql_slice_nil w _ _ (some a) n c 0 0 Tryd.underlying42
    clear hd
    go_enter Tryd.func70, Tryd.ntmps70
    go_wp2_with (first | (at_builtin; refine ap_rs 42 39 _ 4 16 Tryd.underlying42 infoDig rfl (by decide) (by decide) rfl _ _ rfl w.heap.size _ 0 _ rfl hoe (some a) n c (vd p) rfl hr0 hone hl16 (by simp) ?_; intro v4 w4 hown4 hg4 hat4))
    go_ret
    have hb4 : Below w.heap.size w w4 := b0.grown hg4 (by simp) (own_base hoe)
    refine ⟨_, rfl, ?_, hb4⟩
    have := hown4
    rw [Nat.zero_add, List.nil_append] at this
    exact this
def MUpIs (n i : Nat) (leaf : List Nat) (p : Dl) (gs : Nat) (b : Bool) (w : World) (e : Ending) (w' : World) : Prop :=
  ∃ (x0 x1 x2 x3 : Nat) (A : Option Addr) (c : Nat), Hid ((up n i leaf p).1 = [x0, x1, x2, x3]) ∧ e = .returned (.agg #[.int .u32 x0, .int .u32 x1, .int .u32 x2, .int .u32 x3]) ∧ Bx w' gs 104 #[.slice A 0 c, .bool b] ∧ Aside gs w w'
set_option maxRecDepth 100000 in
set_option maxHeartbeats 4000000 in
theorem mup_any (N : Nat) : ∀ (p : Dl) (A : Option Addr) (q c n i d0 d1 d2 d3 gs : Nat) (b : Bool) (w : World), n ≤ N → 0 < n → n ≤ 1000000 → i < n → q ≤ 1000000 → DS w A q c p → (∀ a, A = some a → a.block ≠ gs) → Bx w gs 104 #[.slice A q c, .bool b] → Turns w → gs ≠ 0 → W4 [d0, d1, d2, d3] → (up n i [d0, d1, d2, d3] p).2 = true →
    Calls Tryd.prog 71 #[.pointer (some ⟨gs, 0, none⟩), .int .i64 (n : Nat), .int .i64 (i : Nat), .agg #[.int .u32 d0, .int .u32 d1, .int .u32 d2, .int .u32 d3]] w fun e w' => MUpIs n i [d0, d1, d2, d3] p gs b w e w' := by
  induction N with
  | zero => intro p A q c n i d0 d1 d2 d3 gs b w hn h0; omega
  | succ N ih =>
    intro p A q c n i d0 d1 d2 d3 gs b w hn h0 hn6 hi hq6 hd hA hs hT hg0 hw hok
    have hl := hd.len
    by_cases h1 : n = 1
    · subst h1
      rw [up_one _ _ _ _ (Nat.le_refl _)] at hok
      have hq0 : q = 0 := by rw [hl] at hok; simpa using hok
      subst hq0
      have hu : up 1 i [d0, d1, d2, d3] p = ([d0, d1, d2, d3], p.length == 0) := up_one _ _ _ _ (Nat.le_refl _)
      have HU := Lib.hid hu
      obtain ⟨-, hfin, hBf⟩ := two_alloc w (wds [d0, d1, d2, d3]) (wds [d0, d1, d2, d3]) 39 39
      have hsf := hs.belowS hBf
      clear hu hok hl
      go_enter Tryd.func71, Tryd.ntmps71
      go_wp2_with fail
      refine bodyPost_ret (v := .agg (wds [d0, d1, d2, d3])) (results_cell_row rfl _ _ (w.heap.size + 1) 39 _ (0, 0) _ rfl hfin Tryd.underlying39 rfl (by kernel_rfl)) rfl ⟨d0, d1, d2, d3, A, c, ?_, rfl, hsf, aside_below (aside_refl gs w) hBf⟩
      show (up _ _ _ _).1 = _
      rw [HU.out]
    · have IH := Lib.hid ih
      clear ih
      obtain ⟨q, rfl⟩ : ∃ r, q = r + 1 := by
        rcases Nat.eq_zero_or_pos q with h | h
        · rw [List.eq_nil_of_length_eq_zero (by omega : p.length = 0), up_none _ _ _ (by omega)] at hok
          cases hok
        · exact ⟨q - 1, by omega⟩
      have e1 : ((n : Int) == 1) = false := by simp; omega
      have hk1 := half_lt (n := n) (by omega)
      have hk2 := half_pos n
      have HL0 : Hid (i < half n → up n i [d0, d1, d2, d3] p = (pairD (up (half n) i [d0, d1, d2, d3] p.dropLast).1 (p.getLastD []), (up (half n) i [d0, d1, d2, d3] p.dropLast).2)) := by
        intro h
        rw [up_left _ _ _ _ (by omega) (by omega) h]
      have HR0 : Hid (half n ≤ i → up n i [d0, d1, d2, d3] p = (pairD (p.getLastD []) (up (n - half n) (i - half n) [d0, d1, d2, d3] p.dropLast).1, (up (n - half n) (i - half n) [d0, d1, d2, d3] p.dropLast).2)) := by
        intro h
        rw [up_right _ _ _ _ (by omega) (by omega) h]
      have hpw := hd.wl.dropLast
      have hdb : DS w A q c p.dropLast := ds_but hd
      have HOK := Lib.hid hok
      clear hl hok
      obtain ⟨hl0, hr0, hB0⟩ := two_alloc w #[.int .u32 d0, .int .u32 d1, .int .u32 d2, .int .u32 d3] #[.int .u32 0, .int .u32 0, .int .u32 0, .int .u32 0] 39 39
      go_enter Tryd.func71, Tryd.ntmps71
      go_wp2_with fail
      refine (half_any n _ hn6).mono ?_
      rintro e w1 ⟨rfl, rfl⟩
      obtain ⟨k, hk⟩ : ∃ k, k = half n := ⟨_, rfl⟩
      rw [← hk] at hk1 hk2 HR0 HL0 ⊢
      clear hk
      generalize ((w.alloc (.cells #[.int .u32 d0, .int .u32 d1, .int .u32 d2, .int .u32 d3] 39)).alloc (.cells #[.int .u32 0, .int .u32 0, .int .u32 0, .int .u32 0] 39)) = W at hl0 hr0 hB0 ⊢
      have hl0 : Bx W w.heap.size 39 (wds [d0, d1, d2, d3]) := hl0
      have hr0 : Bx W (w.heap.size + 1) 39 (wds [0, 0, 0, 0]) := hr0
      have hgs := hs.lt
      go_wp2_with fail
      refine (pop_any p A (q + 1) q c gs b W rfl (hd.below hB0) hA (hs.belowS hB0) (by omega)).mono ?_
      rintro e w2 ⟨l0, l1, l2, l3, hla, hlw, rfl, hs2, hA2⟩
      have HL : Hid (i < k → up n i [d0, d1, d2, d3] p = (pairD (up k i [d0, d1, d2, d3] p.dropLast).1 [l0, l1, l2, l3], (up k i [d0, d1, d2, d3] p.dropLast).2)) := by rw [← hla.out]; exact HL0
      have HR : Hid (k ≤ i → up n i [d0, d1, d2, d3] p = (pairD [l0, l1, l2, l3] (up (n - k) (i - k) [d0, d1, d2, d3] p.dropLast).1, (up (n - k) (i - k) [d0, d1, d2, d3] p.dropLast).2)) := by rw [← hla.out]; exact HR0
      have hS2 : Aside gs w w2 := aside_trans (aside_below (aside_refl gs w) hB0) hA2
      have hl2 := aside_far hl0 hA2 (by omega)
      have hr2 := aside_far hr0 hA2 (by omega)
      have hd2 : DS w2 A q c p.dropLast := aside_ds (hdb.below hB0) hA2 hA
      have hT2 : Turns w2 := aside_turns (hT.belowS hB0) hA2 hg0
      have hSV := aside_alloc hS2 (.cells #[.int .u32 l0, .int .u32 l1, .int .u32 l2, .int .u32 l3] 39)
      have hlV := hl2.alloc (.cells #[.int .u32 l0, .int .u32 l1, .int .u32 l2, .int .u32 l3] 39)
      have hrV := hr2.alloc (.cells #[.int .u32 l0, .int .u32 l1, .int .u32 l2, .int .u32 l3] 39)
      have hsV := hs2.alloc (.cells #[.int .u32 l0, .int .u32 l1, .int .u32 l2, .int .u32 l3] 39)
      have bV : Below w2.heap.size w2 (w2.alloc (.cells #[.int .u32 l0, .int .u32 l1, .int .u32 l2, .int .u32 l3] 39)) := (Below.refl _ _).alloc (Nat.le_refl _) _
      have hdV := hd2.below bV
      have hTV := hT2.belowS bV
      have hoV : Bx (w2.alloc (.cells #[.int .u32 l0, .int .u32 l1, .int .u32 l2, .int .u32 l3] 39)) w2.heap.size 39 (wds [l0, l1, l2, l3]) := Bx.new _ _ _
      have y1 := hr2.lt
      have y2 := hl2.lt
      clear hdb hB0 hl0 hr0 hs hT hs2 hA2 hS2 hl2 hr2 hd2 hT2 bV HL0 HR0 hla hd
      have hok := HOK.out
      by_cases hik : i < k
      · skip
        have hu := HL.out hik
        have hR : (up k i [d0, d1, d2, d3] p.dropLast).2 = true := by rw [hu] at hok; exact hok
        have HW := Lib.hid hu
        clear hu hok
        go_wp2_with fail
        generalize (w2.alloc (.cells #[.int .u32 l0, .int .u32 l1, .int .u32 l2, .int .u32 l3] 39)) = V at hSV hlV hrV hsV hdV hTV hoV ⊢
        obtain ⟨ob, hob⟩ : ∃ ob, ob = w2.heap.size := ⟨_, rfl⟩
        rw [← hob] at hoV y1 y2 ⊢
        obtain ⟨rb, hrb0⟩ : ∃ rb, rb = w.heap.size + 1 := ⟨_, rfl⟩
        rw [← hrb0] at hrV y1 ⊢
        obtain ⟨lb, hlb0⟩ : ∃ lb, lb = w.heap.size := ⟨_, rfl⟩
        have hrb : w.heap.size ≤ rb := by omega
        have g1 : lb ≠ gs := by omega
        have g2 : rb ≠ gs := by omega
        have g3 : ob ≠ gs := by omega
        have g5 := g2.symm
        have g6 : lb ≠ rb := by omega
        have g7 : ob ≠ rb := by omega
        have g8 := g6.symm
        have g9 := g7.symm
        have hlV : Bx V lb 39 (wds [d0, d1, d2, d3]) := by rw [hlb0]; exact hlV
        have hlbs : w.heap.size = lb := hlb0.symm
        obtain ⟨a0, a1, a2, a3⟩ := hlV.w4c
        obtain ⟨b0, b1, b2, b3⟩ := hoV.w4c
        obtain ⟨c0, c1, c2, c3⟩ := hrV.w4c
        obtain ⟨f0, f1, f2, f3⟩ := hrV.w4f
        rw [hlbs]
        clear hob hrb0 y1 y2 hlb0 hgs hlbs
        go_region_held3 (fun X : World => X.cell? ⟨lb, 0, none⟩ = some (.int .u32 (d0 : Nat)) ∧ X.cell? ⟨lb, 1, none⟩ = some (.int .u32 (d1 : Nat)) ∧ X.cell? ⟨lb, 2, none⟩ = some (.int .u32 (d2 : Nat)) ∧ X.cell? ⟨lb, 3, none⟩ = some (.int .u32 (d3 : Nat)) ∧ X.cell? ⟨ob, 0, none⟩ = some (.int .u32 (l0 : Nat)) ∧ X.cell? ⟨ob, 1, none⟩ = some (.int .u32 (l1 : Nat)) ∧ X.cell? ⟨ob, 2, none⟩ = some (.int .u32 (l2 : Nat)) ∧ X.cell? ⟨ob, 3, none⟩ = some (.int .u32 (l3 : Nat))) (go_keep) (first
          | (go_at_call 71; refine (IH.out p.dropLast A q c k i d0 d1 d2 d3 gs b _ (by omega) hk2 (by omega) hik (by omega) ?_ hA ?_ ?_ hg0 hw hR).mono ?_; exact hdV.drew; exact hsV.drew; exact hTV; rintro e w4 ⟨x0, x1, x2, x3, A4, c4, hx, rfl, hs4, hA4⟩; have hxw : W4 [x0, x1, x2, x3] := (by rw [← hx.out]; exact up_w4 k i [d0, d1, d2, d3] p.dropLast hw hpw); have hS4 := aside_trans (aside_drew hSV) hA4; have hT4 : Turns w4 := aside_turns (show Turns V.drew from hTV) hA4 hg0; have hl4 := aside_far hlV.drew hA4 g1; have ho4 := aside_far hoV.drew hA4 g3; have hr4 := aside_far hrV.drew hA4 g2; obtain ⟨a40, a41, a42, a43⟩ := hl4.w4c; obtain ⟨b40, b41, b42, b43⟩ := ho4.w4c; obtain ⟨c40, c41, c42, c43⟩ := hr4.w4c; obtain ⟨f40, f41, f42, f43⟩ := hr4.w4f)
          | (go_at_call 101; refine (pair_any x0 x1 x2 x3 l0 l1 l2 l3 w4 hT4 hxw hlw).mono ?_; rintro e w5 ⟨z0, z1, z2, z3, hz, rfl, hb5⟩; have hS5 := aside_below hS4 hb5; have hs5 := hs4.belowS hb5; have hl5 := hl4.belowS hb5; have ho5 := ho4.belowS hb5; have hr5 := hr4.belowS hb5; obtain ⟨a50, a51, a52, a53⟩ := hl5.w4c; obtain ⟨b50, b51, b52, b53⟩ := ho5.w4c; obtain ⟨c50, c51, c52, c53⟩ := hr5.w4c; obtain ⟨f50, f51, f52, f53⟩ := hr5.w4f))
        all_goals
          go_wp2_with fail
          have hfin := hr5.set4 z0 z1 z2 z3
          refine bodyPost_ret (v := .agg (wds [z0, z1, z2, z3])) (results_cell_row rfl _ _ rb 39 _ (0, 0) _ rfl hfin Tryd.underlying39 rfl (by kernel_rfl)) rfl ⟨z0, z1, z2, z3, A4, c4, ?_, rfl, hs5.far4 g5 _ _ _ _, ?_⟩
          · show (up _ _ _ _).1 = _
            rw [HW.out]
            show pairD _ _ = _; rw [hx.out]; exact hz.out
          · have hzz : ∀ j, w.heap.size ≤ (⟨rb, j, none⟩ : Addr).block := fun j => hrb
            exact aside_new (aside_new (aside_new (aside_new hS5 (hzz 0) _) (hzz 1) _) (hzz 2) _) (hzz 3) _
      · skip
        have hu := HR.out (by omega)
        have hR : (up (n - k) (i - k) [d0, d1, d2, d3] p.dropLast).2 = true := by rw [hu] at hok; exact hok
        obtain ⟨j, hj⟩ : ∃ j : Nat, (i : Int) - (k : Int) = (j : Int) := ⟨i - k, by omega⟩
        obtain ⟨nn, hnn⟩ : ∃ j : Nat, (n : Int) - (k : Int) = (j : Int) := ⟨n - k, by omega⟩
        have hjk : j = i - k := by omega
        have hnk : nn = n - k := by omega
        rw [← hjk, ← hnk] at hu hR
        have HW := Lib.hid hu
        have hjn : j < nn := by omega
        have hwj : IntKind.i64.wrap (j : Int) = (j : Int) := IntWalk.i64_in _ (by omega)
        have hwn : IntKind.i64.wrap (nn : Int) = (nn : Int) := IntWalk.i64_in _ (by omega)
        have hnn6 : nn ≤ N := by omega
        have hki : (k : Int) ≤ (i : Int) := by omega
        clear hu hjk hnk hok
        go_wp2_with fail
        generalize (w2.alloc (.cells #[.int .u32 l0, .int .u32 l1, .int .u32 l2, .int .u32 l3] 39)) = V at hSV hlV hrV hsV hdV hTV hoV ⊢
        obtain ⟨ob, hob⟩ : ∃ ob, ob = w2.heap.size := ⟨_, rfl⟩
        rw [← hob] at hoV y1 y2 ⊢
        obtain ⟨rb, hrb0⟩ : ∃ rb, rb = w.heap.size + 1 := ⟨_, rfl⟩
        rw [← hrb0] at hrV y1 ⊢
        obtain ⟨lb, hlb0⟩ : ∃ lb, lb = w.heap.size := ⟨_, rfl⟩
        have hrb : w.heap.size ≤ rb := by omega
        have g1 : lb ≠ gs := by omega
        have g2 : rb ≠ gs := by omega
        have g3 : ob ≠ gs := by omega
        have g5 := g2.symm
        have g6 : lb ≠ rb := by omega
        have g7 : ob ≠ rb := by omega
        have g8 := g6.symm
        have g9 := g7.symm
        have hlV : Bx V lb 39 (wds [d0, d1, d2, d3]) := by rw [hlb0]; exact hlV
        have hlbs : w.heap.size = lb := hlb0.symm
        obtain ⟨a0, a1, a2, a3⟩ := hlV.w4c
        obtain ⟨b0, b1, b2, b3⟩ := hoV.w4c
        obtain ⟨c0, c1, c2, c3⟩ := hrV.w4c
        obtain ⟨f0, f1, f2, f3⟩ := hrV.w4f
        rw [hlbs]
        clear hob hrb0 y1 y2 hlb0 hgs hlbs
        go_region_held3 (fun X : World => X.cell? ⟨lb, 0, none⟩ = some (.int .u32 (d0 : Nat)) ∧ X.cell? ⟨lb, 1, none⟩ = some (.int .u32 (d1 : Nat)) ∧ X.cell? ⟨lb, 2, none⟩ = some (.int .u32 (d2 : Nat)) ∧ X.cell? ⟨lb, 3, none⟩ = some (.int .u32 (d3 : Nat)) ∧ X.cell? ⟨ob, 0, none⟩ = some (.int .u32 (l0 : Nat)) ∧ X.cell? ⟨ob, 1, none⟩ = some (.int .u32 (l1 : Nat)) ∧ X.cell? ⟨ob, 2, none⟩ = some (.int .u32 (l2 : Nat)) ∧ X.cell? ⟨ob, 3, none⟩ = some (.int .u32 (l3 : Nat))) (go_keep) (first
          | (go_at_call 71; refine (IH.out p.dropLast A q c nn j d0 d1 d2 d3 gs b _ hnn6 (by omega) (by omega) hjn (by omega) ?_ hA ?_ ?_ hg0 hw hR).mono ?_; exact hdV.drew; exact hsV.drew; exact hTV; rintro e w4 ⟨x0, x1, x2, x3, A4, c4, hx, rfl, hs4, hA4⟩; have hxw : W4 [x0, x1, x2, x3] := (by rw [← hx.out]; exact up_w4 nn j [d0, d1, d2, d3] p.dropLast hw hpw); have hS4 := aside_trans (aside_drew hSV) hA4; have hT4 : Turns w4 := aside_turns (show Turns V.drew from hTV) hA4 hg0; have hl4 := aside_far hlV.drew hA4 g1; have ho4 := aside_far hoV.drew hA4 g3; have hr4 := aside_far hrV.drew hA4 g2; obtain ⟨a40, a41, a42, a43⟩ := hl4.w4c; obtain ⟨b40, b41, b42, b43⟩ := ho4.w4c; obtain ⟨c40, c41, c42, c43⟩ := hr4.w4c; obtain ⟨f40, f41, f42, f43⟩ := hr4.w4f)
          | (go_at_call 101; refine (pair_any l0 l1 l2 l3 x0 x1 x2 x3 w4 hT4 hlw hxw).mono ?_; rintro e w5 ⟨z0, z1, z2, z3, hz, rfl, hb5⟩; have hS5 := aside_below hS4 hb5; have hs5 := hs4.belowS hb5; have hl5 := hl4.belowS hb5; have ho5 := ho4.belowS hb5; have hr5 := hr4.belowS hb5; obtain ⟨a50, a51, a52, a53⟩ := hl5.w4c; obtain ⟨b50, b51, b52, b53⟩ := ho5.w4c; obtain ⟨c50, c51, c52, c53⟩ := hr5.w4c; obtain ⟨f50, f51, f52, f53⟩ := hr5.w4f))
        all_goals
          go_wp2_with fail
          have hfin := hr5.set4 z0 z1 z2 z3
          refine bodyPost_ret (v := .agg (wds [z0, z1, z2, z3])) (results_cell_row rfl _ _ rb 39 _ (0, 0) _ rfl hfin Tryd.underlying39 rfl (by kernel_rfl)) rfl ⟨z0, z1, z2, z3, A4, c4, ?_, rfl, hs5.far4 g5 _ _ _ _, ?_⟩
          · show (up _ _ _ _).1 = _
            rw [HW.out]
            show pairD _ _ = _; rw [hx.out]; exact hz.out
          · have hzz : ∀ j, w.heap.size ≤ (⟨rb, j, none⟩ : Addr).block := fun j => hrb
            exact aside_new (aside_new (aside_new (aside_new hS5 (hzz 0) _) (hzz 1) _) (hzz 2) _) (hzz 3) _
set_option maxRecDepth 100000 in
set_option maxHeartbeats 1000000 in
theorem mcheck_any (r0 r1 r2 r3 n i d0 d1 d2 d3 : Nat) (p : Dl) (A : Option Addr) (m c : Nat) (w : World) (hT : Turns w) (hn : n ≤ 1000) (hi : i < n) (hm : m ≤ n) (hd : DS w A m c p) (hw : W4 [d0, d1, d2, d3]) (hok : up n i [d0, d1, d2, d3] p = ([r0, r1, r2, r3], true)) :
    Calls Tryd.prog 33 #[.agg #[.int .u32 r0, .int .u32 r1, .int .u32 r2, .int .u32 r3], .int .i64 (n : Nat), .int .i64 (i : Nat), .agg #[.int .u32 d0, .int .u32 d1, .int .u32 d2, .int .u32 d3], .slice A m c] w fun e w' =>
      e = .returned (.bool true) ∧ Below w.heap.size w w' := by
  have hi2 : (i : Int) < (n : Int) := by omega
  have hn2 : (n : Int) ≤ 1000 := by omega
  have hm2 : (m : Int) ≤ (n : Int) := by omega
  have hd2 : decide (n < m) = false := by simp; omega
  have hd3 : decide ((n : Int) < (m : Int)) = false := by simp; omega
  have hok2 : (up n i [d0, d1, d2, d3] p).2 = true := by rw [hok]
  have HOK := Lib.hid hok
  clear hok
  go_enter Tryd.func33, Tryd.ntmps33
  obtain ⟨hr0, hl0, hB0⟩ := two_alloc w (wds [r0, r1, r2, r3]) (wds [d0, d1, d2, d3]) 39 39
  go_wp2_with fail
  refine (clone_any p A m c _ (hd.below hB0) (by omega)).mono ?_
  rintro e w1 ⟨v, rfl, hown, hb1⟩
  have hB1 := hB0.trans (hb1.mono hB0.size)
  have hr1 := hr0.belowS hb1
  have hl1 := hl0.belowS hb1
  have hwl : Wl p := hd.wl
  have hlen : p.length = m := hd.len
  obtain ⟨A2, c2, rfl, hds⟩ := ds_own hown hwl hlen
  have hA2 : ∀ a, A2 = some a → a.block ≠ w1.heap.size := by
    intro a ha
    subst ha
    exact Nat.ne_of_lt (hown.lt a.block rfl).2
  have hs2 : Bx (w1.alloc (.cells #[.slice A2 m c2, .bool true] 104)) w1.heap.size 104 #[.slice A2 m c2, .bool true] := Bx.new _ _ _
  have b2 : Below w1.heap.size w1 (w1.alloc (.cells #[.slice A2 m c2, .bool true] 104)) := (Below.refl _ _).alloc (Nat.le_refl _) _
  have hB2 := hB1.trans (b2.mono hB1.size)
  have hr2 := hr1.belowS b2
  have hl2 := hl1.belowS b2
  have hds2 := hds.below b2
  have zr := hr1.lt
  have zl := hl1.lt
  obtain ⟨k0, k1, k2, k3⟩ := hl2.w4c
  have hT2 := hT.belowS hB2
  clear hr0 hl0 hB0 hb1 hr1 hl1 hown hds b2 hB1 hlen hd
  go_wp2_with fail
  generalize (w1.alloc (.cells #[.slice A2 m c2, .bool true] 104)) = V at hs2 hB2 hr2 hl2 hds2 k0 k1 k2 k3 hT2 ⊢
  obtain ⟨gs, hgs⟩ : ∃ gs, gs = w1.heap.size := ⟨_, rfl⟩
  rw [← hgs] at hs2 hA2 zr zl ⊢
  clear hgs
  have hgw : w.heap.size ≤ gs := by omega
  refine (mup_any n p A2 m c2 n i d0 d1 d2 d3 gs true V (Nat.le_refl _) (by omega) (by omega) hi (by omega) hds2 hA2 hs2 hT2 (by omega) hw hok2).mono ?_
  rintro e w3 ⟨x0, x1, x2, x3, A3, c3, hx, rfl, hs3, hS3⟩
  have hxr : [x0, x1, x2, x3] = [r0, r1, r2, r3] := by rw [← hx.out, HOK.out]
  simp only [List.cons.injEq, and_true] at hxr
  obtain ⟨rfl, rfl, rfl, rfl⟩ := hxr
  have heq := eq_dig x0 x1 x2 x3 x0 x1 x2 x3
  rw [decide_eq_true rfl] at heq
  have hB3 : Below w.heap.size w w3 := hB2.grown hS3 hB2.size (fun k hk => by injection hk with hk; omega)
  have hr3 := aside_far hr2 hS3 (by omega)
  have hs4 := hs3.alloc (.cells #[.int .u32 x0, .int .u32 x1, .int .u32 x2, .int .u32 x3] 39)
  have hr4 := hr3.alloc (.cells #[.int .u32 x0, .int .u32 x1, .int .u32 x2, .int .u32 x3] 39)
  have hB4 := hB3.alloc hB3.size (.cells #[.int .u32 x0, .int .u32 x1, .int .u32 x2, .int .u32 x3] 39)
  have hx4 : Bx (w3.alloc (.cells #[.int .u32 x0, .int .u32 x1, .int .u32 x2, .int .u32 x3] 39)) w3.heap.size 39 (wds [x0, x1, x2, x3]) := Bx.new _ _ _
  clear hs2 hB2 hr2 hl2 hds2 k0 k1 k2 k3 hT2 hB3 hr3 hS3 hx hA2
  have z3 := hs3.lt
  clear hs3
  go_wp2_with fail
  generalize (w3.alloc (.cells #[.int .u32 x0, .int .u32 x1, .int .u32 x2, .int .u32 x3] 39)) = U at hs4 hr4 hB4 hx4 ⊢
  obtain ⟨xb, hxb⟩ : ∃ xb, xb = w3.heap.size := ⟨_, rfl⟩
  rw [← hxb] at hx4 ⊢
  clear hxb z3
  refine (done_any A3 c3 gs U hs4).mono ?_
  rintro e w5 ⟨rfl, rfl⟩
  obtain ⟨a0, a1, a2, a3⟩ := hx4.w4c
  obtain ⟨b0, b1, b2, b3⟩ := hr4.w4c
  go_wp2_with fail
  go_ret
  exact ⟨rfl, hB4⟩
end Go.Proofs.YtgpohndnkecbeaaDoor
namespace Go.Proofs.YtgpohndnkecbeaaDoor
open Go Go.RowKit Go.Proofs.Sc
def SysInRel (w : World) (sb : Nat) (A : Option Addr) (n c : Nat) (i : Value) (wr : World) : Prop :=
  ∃ k : Nat, k ≤ n ∧ i = .int .i64 k ∧ Bx wr sb 34 #[.slice A n c] ∧ Below w.heap.size w wr
set_option maxRecDepth 100000 in
set_option maxHeartbeats 2000000 in
theorem sysin_any (A : Option Addr) (n c : Nat) (l : List ByteArray) (a : ByteArray) (w : World) (hT : Turns w) (_hnc : n ≤ c) (_hA : A = none → c = 0) (hn : n ≤ 8796093022208) (hr : Rs w A n 1 (vs l)) (_hs : ∀ s ∈ l, s.size ≤ 140737488355328) :
    Calls Tryd.prog 5 #[.slice A n c, .string a] w fun e w' => e = .returned (.bool true) ∧ Below w.heap.size w w' := by
  have hl := hr.slen
  clear _hnc _hA _hs
  go_enter Tryd.func5, Tryd.ntmps5
  go_wp2_with fail
  refine (texts_any A n c l w hr (by omega)).mono ?_
  rintro e w0 ⟨rfl, rfl⟩
  by_cases hf : fewP l 12 300
  case neg =>
    rw [decide_eq_false hf]
    clear hf
    go_wp2_with fail
    go_ret
    exact ⟨rfl, Below.refl _ _⟩
  rw [decide_eq_true hf]
  have hn12 : n ≤ 12 := by have := hf.1; omega
  have hsz := hf.2
  clear hf
  by_cases ha : (300 : Int) < (a.size : Int)
  case pos =>
    go_wp2_with fail
    go_ret
    exact ⟨rfl, Below.refl _ _⟩
  have ha3 : (a.size : Int) ≤ 300 := by omega
  go_wp2_with fail
  refine (filled_any A n c l w hT hr hn12 hsz).mono ?_
  rintro e w1 ⟨xs, b, A1, n1, c1, rfl, hnc1, hA1, hr1, hxl, hxm, hxr, hB1⟩
  cases b with
  | false =>
    have hB1' := hB1.alloc hB1.size (.cells #[.slice A1 n1 c1] 34)
    clear hr1
    go_wp2_with fail
    go_ret
    exact ⟨rfl, hB1'⟩
  | true =>
    have hx1 := hr1.slen
    have hn1 : n1 ≤ 12 := by omega
    have hxsz : ∀ s ∈ xs, s.size ≤ 1000000 := fun s h => by have := hsz s (hxm s h); omega
    have hs2 : Bx (w1.alloc (.cells #[.slice A1 n1 c1] 34)) w1.heap.size 34 #[.slice A1 n1 c1] := Bx.new _ _ _
    have hB2 := hB1.alloc hB1.size (.cells #[.slice A1 n1 c1] 34)
    have hr2 := hr1.alloc (.cells #[.slice A1 n1 c1] 34)
    clear hxm hsz hxl ha
    go_wp2_with fail
    generalize (w1.alloc (.cells #[.slice A1 n1 c1] 34)) = w2 at hs2 hB2 hr2 ⊢
    obtain ⟨sb, hsb⟩ : ∃ sb, sb = w1.heap.size := ⟨_, rfl⟩
    rw [← hsb] at hs2 ⊢
    clear hsb hr1 hB1
    have hT2 := hT.belowS hB2
    refine (of_dg a w2 hT2 (by omega)).mono ?_
    rintro e w3 ⟨d0, d1, d2, d3, hda, rfl, hb3⟩
    have hdw : W4 [d0, d1, d2, d3] := by rw [← hda.out]; exact dg_w4 a
    have hB3 := hB2.trans (hb3.mono hB2.size)
    have hs3 := hs2.belowS hb3
    have hr3 := hr2.below hb3
    have hd4 : Bx (w3.alloc (.cells #[.int .u32 d0, .int .u32 d1, .int .u32 d2, .int .u32 d3] 39)) w3.heap.size 39 (wds [d0, d1, d2, d3]) := Bx.new _ _ _
    have hB4 := hB3.alloc hB3.size (.cells #[.int .u32 d0, .int .u32 d1, .int .u32 d2, .int .u32 d3] 39)
    have hs4 := hs3.alloc (.cells #[.int .u32 d0, .int .u32 d1, .int .u32 d2, .int .u32 d3] 39)
    have hr4 := hr3.alloc (.cells #[.int .u32 d0, .int .u32 d1, .int .u32 d2, .int .u32 d3] 39)
    have z3 := hs3.lt
    have s3 : w3.cell? ⟨sb, 0, none⟩ = some (.slice A1 n1 c1) := hs3.cell 0
    clear hb3 hB2 hs2 hr2 hT2
    go_wp2_with fail
    generalize (w3.alloc (.cells #[.int .u32 d0, .int .u32 d1, .int .u32 d2, .int .u32 d3] 39)) = w4 at hd4 hB4 hs4 hr4 ⊢
    obtain ⟨db, hdb⟩ : ∃ db, db = w3.heap.size := ⟨_, rfl⟩
    rw [← hdb] at hd4 ⊢
    clear hdb z3 s3 hB3 hs3 hr3
    have hT4 := hT.belowS hB4
    refine (get_any A1 n1 c1 xs d0 d1 d2 d3 w4 hT4 hr4 (by omega) hxsz).mono ?_
    rintro e w5 ⟨rfl, hb5⟩
    have hB5 := hB4.trans (hb5.mono hB4.size)
    have hs5 := hs4.belowS hb5
    have hd5 := hd4.belowS hb5
    have hr5 := hr4.below hb5
    have hT5 := hT.belowS hB5
    have s5 : w5.cell? ⟨sb, 0, none⟩ = some (.slice A1 n1 c1) := hs5.cell 0
    obtain ⟨k0, k1, k2, k3⟩ := hd5.w4c
    clear hb5 hB4 hs4 hd4 hr4 hT4
    obtain ⟨G, hG⟩ : ∃ G, G = getP xs [d0, d1, d2, d3] := ⟨_, rfl⟩
    rw [← hG]
    have HG := Lib.hid hG
    clear hG
    go_wp2_with fail
    refine (sprove_any A1 n1 c1 xs d0 d1 d2 d3 w5 hT5 hr5 (by omega) hxsz).mono ?_
    rintro e w6 ⟨v, rfl, hown, hb6⟩
    have hB6 := hB5.trans (hb6.mono hB5.size)
    have hs6 := hs5.belowS hb6
    have hd6 := hd5.belowS hb6
    have hr6 := hr5.below hb6
    have hT6 := hT.belowS hB6
    have s6 : w6.cell? ⟨sb, 0, none⟩ = some (.slice A1 n1 c1) := hs6.cell 0
    clear hb6 hB5 hs5 hd5 hr5 hT5 s5 k0 k1 k2 k3
    obtain ⟨P, hP⟩ : ∃ P, P = proveP xs [d0, d1, d2, d3] := ⟨_, rfl⟩
    rw [← hP] at hown ⊢
    have HP := Lib.hid hP
    clear hP
    obtain ⟨A5, c5, rfl⟩ := own_slice hown
    have hqo := Rs.of_own hown
    obtain ⟨A5', c5', hAc, hzc, hcm⟩ := own_slice_cap hown
    cases hAc
    clear hown
    go_wp2_with fail
    refine (head_any A1 n1 c1 xs w6 hT6 hr6 (by omega) hxsz).mono ?_
    rintro e w7 ⟨r0, r1, r2, r3, hro, rfl, hb7⟩
    have hB7 := hB6.trans (hb7.mono hB6.size)
    have hs7 := hs6.belowS hb7
    have hd7 := hd6.belowS hb7
    have hr7 := hr6.below hb7
    have hq7 := hqo.below hb7
    have hh8 : Bx (w7.alloc (.cells #[.int .i64 n1, .int .u32 r0, .int .u32 r1, .int .u32 r2, .int .u32 r3] 46)) w7.heap.size 46 #[.int .i64 n1, .int .u32 r0, .int .u32 r1, .int .u32 r2, .int .u32 r3] := Bx.new _ _ _
    have hB8 := hB7.alloc hB7.size (.cells #[.int .i64 n1, .int .u32 r0, .int .u32 r1, .int .u32 r2, .int .u32 r3] 46)
    have hs8 := hs7.alloc (.cells #[.int .i64 n1, .int .u32 r0, .int .u32 r1, .int .u32 r2, .int .u32 r3] 46)
    have hd8 := hd7.alloc (.cells #[.int .i64 n1, .int .u32 r0, .int .u32 r1, .int .u32 r2, .int .u32 r3] 46)
    have hr8 := hr7.alloc (.cells #[.int .i64 n1, .int .u32 r0, .int .u32 r1, .int .u32 r2, .int .u32 r3] 46)
    have hq8 := hq7.alloc (.cells #[.int .i64 n1, .int .u32 r0, .int .u32 r1, .int .u32 r2, .int .u32 r3] 46)
    clear hb7 hB6 hs6 hd6 hr6 hT6 s6 hqo
    cases hfi : findP xs [d0, d1, d2, d3] with
    | none =>
      have hg0 : G = (ByteArray.empty, 6) := by rw [HG.out, getP, hfi]
      have hp0 : P = (0, [], 6) := by rw [HP.out, proveP, hfi]
      have hno : ∀ j, j < n1 → gs xs j ≠ a := by
        intro j hj h
        have := findP_none hfi j (by omega)
        rw [h] at this
        exact this hda.out
      have HNO := Lib.hid hno
      clear hno HG HP hfi
      subst hg0
      subst hp0
      clear hq7 hq8 hd7 hd8 hh8 hzc
      go_wp2_with fail
      generalize (w7.alloc (.cells #[.int .i64 n1, .int .u32 r0, .int .u32 r1, .int .u32 r2, .int .u32 r3] 46)) = w8 at hB8 hs8 hr8 ⊢
      clear hB7 hs7 hr7
      go_loopw [14] (fun i wr => SysInRel w sb A1 n1 c1 i wr ∧ Rs wr A1 n1 1 (vs xs)) (fun i _ => n1 - (intOf i).toNat)
      case atStart => exact ⟨⟨0, by omega, rfl, hs8, hB8⟩, hr8⟩
      case round =>
        obtain ⟨⟨k, hk, rfl, hs, hB⟩, hrx⟩ := hrel
        obtain ⟨w9, rfl⟩ : ∃ w9 : World, w9 = wr := ⟨_, rfl⟩
        clear hs8 hB8 hr8
        have s9 : w9.cell? ⟨sb, 0, none⟩ = some (.slice A1 n1 c1) := hs.cell 0
        by_cases hlt : k < n1
        · obtain ⟨g, o, rfl, hc⟩ := hrx.str hlt
          have hne := HNO.out k hlt
          obtain ⟨R, hR⟩ : ∃ R, R = gs xs k := ⟨_, rfl⟩
          rw [← hR] at hc hne
          have hneb : (R.toList == a.toList) = false := by
            rw [Lib.toList_data, Lib.toList_data]
            have : ¬ R.data.toList = a.data.toList := fun h => hne (ba_ext h)
            simpa using this
          have hd : decide (k < n1) = true := by simp; omega
          have hkn : (k : Int) < (n1 : Int) := by omega
          clear hR hne
          go_wp2_with fail
          exact ⟨⟨⟨k + 1, by omega, by go_num, hs, hB⟩, hrx⟩, by simp [intOf]; omega⟩
        · obtain rfl : k = n1 := by omega
          have hd : decide (k < k) = false := by simp
          go_wp2_with fail
          go_ret
          exact ⟨rfl, hB⟩
    | some i =>
      obtain ⟨hin, hdi, -⟩ := findP_some hfi
      have hg0 : G = (gs xs i, 0) := by rw [HG.out, getP, hfi]
      have hp0 : P = (i, way (dgs xs) i, 0) := by rw [HP.out, proveP, hfi]
      have hin1 : i < n1 := by omega
      have hup : up n1 i [d0, d1, d2, d3] (way (dgs xs) i) = ([r0, r1, r2, r3], true) := by
        have h1 := up_way (dgs xs) i (by rw [dgs_len]; exact hin)
        rw [dgs_len, dgs_get xs i hin, hdi, hx1, hro.out] at h1
        exact h1
      have hwlen : (way (dgs xs) i).length ≤ n1 := by
        have h1 := way_len (dgs xs) i
        rw [dgs_len] at h1
        omega
      obtain ⟨g, o, hAg, -⟩ := hr8.str (k := i) hin1
      subst hAg
      obtain ⟨R, hR⟩ : ∃ R, R = gs xs i := ⟨_, rfl⟩
      obtain ⟨Q, hQ⟩ : ∃ Q, Q = way (dgs xs) i := ⟨_, rfl⟩
      have hQw : Wl (way (dgs xs) i) := way_wl _ _ (dgs_wl xs)
      rw [← hR] at hg0
      rw [← hQ] at hp0 hup hwlen hQw
      have hRd : dg R = [d0, d1, d2, d3] := by rw [hR]; exact hdi
      have hRs : R.size ≤ 1000000 := by rw [hR]; exact hxsz _ (by simp [gs, hin])
      have HR := Lib.hid hR
      have HRD := Lib.hid hRd
      clear hR hQ HG HP hfi hdi hRd
      subst hg0
      subst hp0
      simp only at hzc hq7 hq8 ⊢
      obtain ⟨z, hz⟩ : ∃ z, z = Q.length := ⟨_, rfl⟩
      have hds8 : DS (w7.alloc (.cells #[.int .i64 n1, .int .u32 r0, .int .u32 r1, .int .u32 r2, .int .u32 r3] 46)) A5 Q.length c5 Q := ⟨hq8, hQw, rfl, hzc, hcm⟩
      rw [← hz] at hds8 hwlen ⊢
      clear hq8 hq7 hz hcm hzc
      go_wp2_with fail
      have hq8 := hds8
      generalize (w7.alloc (.cells #[.int .i64 n1, .int .u32 r0, .int .u32 r1, .int .u32 r2, .int .u32 r3] 46)) = w8 at hB8 hs8 hd8 hr8 hh8 hq8 hds8 ⊢
      obtain ⟨hb, hhb⟩ : ∃ hb, hb = w7.heap.size := ⟨_, rfl⟩
      rw [← hhb] at hh8 ⊢
      clear hhb hB7 hs7 hd7 hr7 hds8
      have hT8 := hT.belowS hB8
      have s8 : w8.cell? ⟨sb, 0, none⟩ = some (.slice (some ⟨g, o, none⟩) n1 c1) := hs8.cell 0
      obtain ⟨u80, u81, u82, u83⟩ := hd8.w4c
      have v80 : w8.cell? ⟨hb, 0, none⟩ = some (.int .i64 (n1 : Nat)) := hh8.cell 0
      have v81 : w8.cell? ⟨hb, 1, none⟩ = some (.int .u32 (r0 : Nat)) := hh8.cell 1
      have v82 : w8.cell? ⟨hb, 2, none⟩ = some (.int .u32 (r1 : Nat)) := hh8.cell 2
      have v83 : w8.cell? ⟨hb, 3, none⟩ = some (.int .u32 (r2 : Nat)) := hh8.cell 3
      have v84 : w8.cell? ⟨hb, 4, none⟩ = some (.int .u32 (r3 : Nat)) := hh8.cell 4
      have c8' : w8.cell? ⟨g, o + i, none⟩ = some (.string R) := HR.out ▸ strc hr8 hin1
      have hin2 : (i : Int) < (n1 : Int) := by omega
      have hseq : (R.toList == R.toList) = true := by simp
      have hdi1 : decide ((i : Int) < (n1 : Int)) = true := by simp; omega
      have hdi2 : decide (i < n1) = true := by simp; omega
      go_region_held3 (fun X : World => X.cell? ⟨sb, 0, none⟩ = some (.slice (some ⟨g, o, none⟩) n1 c1) ∧ X.cell? ⟨g, o + i, none⟩ = some (.string R) ∧ X.cell? ⟨db, 0, none⟩ = some (.int .u32 (d0 : Nat)) ∧ X.cell? ⟨db, 1, none⟩ = some (.int .u32 (d1 : Nat)) ∧ X.cell? ⟨db, 2, none⟩ = some (.int .u32 (d2 : Nat)) ∧ X.cell? ⟨db, 3, none⟩ = some (.int .u32 (d3 : Nat)) ∧ X.cell? ⟨hb, 0, none⟩ = some (.int .i64 (n1 : Nat)) ∧ X.cell? ⟨hb, 1, none⟩ = some (.int .u32 (r0 : Nat)) ∧ X.cell? ⟨hb, 2, none⟩ = some (.int .u32 (r1 : Nat)) ∧ X.cell? ⟨hb, 3, none⟩ = some (.int .u32 (r2 : Nat)) ∧ X.cell? ⟨hb, 4, none⟩ = some (.int .u32 (r3 : Nat))) (go_keep) (first
        | (go_at_call 29; refine (of_dg R _ ?_ hRs).mono ?_; exact hT8; rintro e w9 ⟨y0, y1, y2, y3, hy, rfl, hb9⟩; have hB9 := hB8.drew.trans (hb9.mono hB8.size); have hs9 := hs8.drew.belowS hb9; have hd9 := hd8.drew.belowS hb9; have hh9 := hh8.drew.belowS hb9; have hr9 := hr8.drew.below hb9; have hq9 := hq8.drew.below hb9; have hT9 := hT.belowS hB9; have s9 : w9.cell? ⟨sb, 0, none⟩ = some (.slice (some ⟨g, o, none⟩) n1 c1) := hs9.cell 0; obtain ⟨u90, u91, u92, u93⟩ := hd9.w4c; have v90 : w9.cell? ⟨hb, 0, none⟩ = some (.int .i64 (n1 : Nat)) := hh9.cell 0; have v91 : w9.cell? ⟨hb, 1, none⟩ = some (.int .u32 (r0 : Nat)) := hh9.cell 1; have v92 : w9.cell? ⟨hb, 2, none⟩ = some (.int .u32 (r1 : Nat)) := hh9.cell 2; have v93 : w9.cell? ⟨hb, 3, none⟩ = some (.int .u32 (r2 : Nat)) := hh9.cell 3; have v94 : w9.cell? ⟨hb, 4, none⟩ = some (.int .u32 (r3 : Nat)) := hh9.cell 4; have c9' : w9.cell? ⟨g, o + i, none⟩ = some (.string R) := HR.out ▸ strc hr9 hin1; have heq := eq_dig y0 y1 y2 y3 d0 d1 d2 d3; have hyd : [y0, y1, y2, y3] = [d0, d1, d2, d3] := (by rw [← hy.out]; exact HRD.out); rw [decide_eq_true hyd] at heq; clear hyd)
        | (go_at_call 33; refine (mcheck_any r0 r1 r2 r3 n1 i d0 d1 d2 d3 Q A5 z c5 w9 hT9 (by omega) hin1 hwlen hq9 hdw hup).mono ?_; rintro e w10 ⟨rfl, hb10⟩; have hB10 := hB9.trans (hb10.mono hB9.size); have hs10 := hs9.belowS hb10; have hd10 := hd9.belowS hb10; have hh10 := hh9.belowS hb10; have hr10 := hr9.below hb10; have hq10 := hq9.below hb10; have hT10 := hT.belowS hB10; have s10 : w10.cell? ⟨sb, 0, none⟩ = some (.slice (some ⟨g, o, none⟩) n1 c1) := hs10.cell 0; obtain ⟨u100, u101, u102, u103⟩ := hd10.w4c; have v100 : w10.cell? ⟨hb, 0, none⟩ = some (.int .i64 (n1 : Nat)) := hh10.cell 0; have v101 : w10.cell? ⟨hb, 1, none⟩ = some (.int .u32 (r0 : Nat)) := hh10.cell 1; have v102 : w10.cell? ⟨hb, 2, none⟩ = some (.int .u32 (r1 : Nat)) := hh10.cell 2; have v103 : w10.cell? ⟨hb, 3, none⟩ = some (.int .u32 (r2 : Nat)) := hh10.cell 3; have v104 : w10.cell? ⟨hb, 4, none⟩ = some (.int .u32 (r3 : Nat)) := hh10.cell 4; have c10' : w10.cell? ⟨g, o + i, none⟩ = some (.string R) := HR.out ▸ strc hr10 hin1))
      all_goals
        go_wp2_with fail
        go_ret
        refine ⟨?_, hB10⟩
        first | rfl | simp
end Go.Proofs.YtgpohndnkecbeaaDoor
