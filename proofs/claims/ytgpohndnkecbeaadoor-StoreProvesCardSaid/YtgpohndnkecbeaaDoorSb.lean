/- Slices of digests; contracts: merkle.Root, ref04.Root. -/
import Derived.Test.YtgpohndnkecbeaaDoorSa
import Derived.Test.YtgpohndnkecbeaaDoorMd
namespace Go.Proofs.Sc
open Go Go.RowKit
/-- Digests as cells' values. -/
def vd (l : Dl) : List Value := vw l.flatten
theorem flat_len {l : Dl} (h : Wl l) : l.flatten.length = l.length * 4 := by
  induction l with
  | nil => rfl
  | cons d l ih =>
    rw [List.flatten_cons, List.length_append, ih (fun x hx => h x (by simp [hx])), (h d (by simp)).1, List.length_cons]; omega
theorem vd_len {l : Dl} (h : Wl l) : (vd l).length = l.length * 4 := by rw [vd, vw_len, flat_len h]
theorem flat_take {l : Dl} (h : Wl l) (k : Nat) : l.flatten.take (k * 4) = (l.take k).flatten := by
  induction l generalizing k with
  | nil => simp
  | cons d l ih =>
    cases k with
    | zero => simp
    | succ k =>
      have hd := (h d (by simp)).1
      rw [List.flatten_cons, List.take_succ_cons, List.flatten_cons, show (k + 1) * 4 = d.length + k * 4 by omega, List.take_length_add_append, ih (fun x hx => h x (by simp [hx]))]
theorem flat_drop {l : Dl} (h : Wl l) (k : Nat) : l.flatten.drop (k * 4) = (l.drop k).flatten := by
  induction l generalizing k with
  | nil => simp
  | cons d l ih =>
    cases k with
    | zero => simp
    | succ k =>
      have hd := (h d (by simp)).1
      rw [List.flatten_cons, List.drop_succ_cons, show (k + 1) * 4 = d.length + k * 4 by omega, List.drop_length_add_append, ih (fun x hx => h x (by simp [hx]))]
theorem vd_take {l : Dl} (h : Wl l) (k : Nat) : (vd l).take (k * 4) = vd (l.take k) := by
  rw [vd, vw, ← List.map_take, flat_take h]; rfl
theorem vd_drop {l : Dl} (h : Wl l) (k : Nat) : (vd l).drop (k * 4) = vd (l.drop k) := by
  rw [vd, vw, ← List.map_drop, flat_drop h]; rfl
theorem vd_app (a b : Dl) : vd (a ++ b) = vd a ++ vd b := by simp [vd, vw]
theorem vd_one (d0 d1 d2 d3 : Nat) : vd [[d0, d1, d2, d3]] = [.int .u32 d0, .int .u32 d1, .int .u32 d2, .int .u32 d3] := by simp [vd, vw]
/-- A slice of digests. -/
structure DS (w : World) (A : Option Addr) (n c : Nat) (l : Dl) : Prop where
  rs : Rs w A n 4 (vd l)
  wl : Wl l
  len : l.length = n
  cap : n ≤ c
  max : c ≤ 9223372036854775807
section
variable {w w' : World} {A : Option Addr} {n c : Nat} {l : Dl}
theorem DS.below (h : DS w A n c l) (hb : Below w.heap.size w w') : DS w' A n c l := ⟨h.rs.below hb, h.wl, h.len, h.cap, h.max⟩
theorem DS.drew (h : DS w A n c l) : DS w.drew A n c l := ⟨h.rs, h.wl, h.len, h.cap, h.max⟩
theorem DS.take (h : DS w A n c l) {k : Nat} (hk : k ≤ n) : DS w A k c (l.take k) := by
  refine ⟨?_, h.wl.take k, by rw [List.length_take, h.len]; omega, Nat.le_trans hk h.cap, h.max⟩
  have := h.rs.take hk
  rwa [vd_take h.wl] at this
theorem DS.drop (h : DS w A n c l) {k : Nat} (hk : k < n) : ∃ g o, A = some ⟨g, o, none⟩ ∧ DS w (some ⟨g, o + k * 4, none⟩) (n - k) (c - k) (l.drop k) := by
  obtain ⟨g, o, e, hr⟩ := h.rs.drop hk
  refine ⟨g, o, e, ⟨?_, h.wl.drop k, by rw [List.length_drop, h.len], ?_, ?_⟩⟩
  · rwa [vd_drop h.wl] at hr
  · have := h.cap; omega
  · have := h.max; omega
theorem DS.dig (h : DS w A n c l) {k : Nat} (hk : k < n) : ∃ g o d0 d1 d2 d3, A = some ⟨g, o, none⟩ ∧ l.getD k [] = [d0, d1, d2, d3] ∧ W4 [d0, d1, d2, d3] ∧
    w.cell? ⟨g, o + k * 4, none⟩ = some (.int .u32 (d0 : Nat)) ∧ w.cell? ⟨g, o + k * 4 + 1, none⟩ = some (.int .u32 (d1 : Nat)) ∧ w.cell? ⟨g, o + k * 4 + 2, none⟩ = some (.int .u32 (d2 : Nat)) ∧ w.cell? ⟨g, o + k * 4 + 3, none⟩ = some (.int .u32 (d3 : Nat)) := by
  obtain ⟨g, o, e, hc⟩ := h.rs.2 (by omega)
  have hlen := h.len
  have hw : W4 l[k] := h.wl _ (List.getElem_mem (by omega))
  obtain ⟨d0, d1, d2, d3, hd, -⟩ := hw.form
  have hfl : (l.drop k).flatten = d0 :: d1 :: d2 :: d3 :: (l.drop (k + 1)).flatten := by
    rw [List.drop_eq_getElem_cons (by omega), List.flatten_cons, hd]; rfl
  have hv : ∀ j u, ((d0 :: d1 :: d2 :: d3 :: (l.drop (k + 1)).flatten).map fun x : Nat => Value.int .u32 (x : Int))[j]? = some u → (vd l)[k * 4 + j]? = some u := by
    intro j u hu
    rw [← hfl, ← flat_drop h.wl] at hu
    rw [vd, vw, ← hu, ← List.getElem?_drop, List.map_drop]
  refine ⟨g, o, d0, d1, d2, d3, e, by simp [List.getD_eq_getElem?_getD, hlen, hk, hd], hd ▸ hw, ?_, ?_, ?_, ?_⟩
  · exact hc _ _ (hv 0 _ rfl)
  · rw [Nat.add_assoc]; exact hc _ _ (hv 1 _ rfl)
  · rw [Nat.add_assoc]; exact hc _ _ (hv 2 _ rfl)
  · rw [Nat.add_assoc]; exact hc _ _ (hv 3 _ rfl)
end
end Go.Proofs.Sc
namespace Go.Proofs.YtgpohndnkecbeaaDoor
open Go Go.RowKit Go.Proofs.Sc
/-- l[k:], of digests. -/
theorem sl42_l (g o n c k : Nat) (hk : k < c) (hn : k ≤ n) (w : World) : (Instr.slice 42 (.slice (some ⟨g, o, none⟩) n c) (some (.int .i64 (k : Int))) none none).run Tryd.prog w = .ok (.slice (some ⟨g, o + k * 4, none⟩) (n - k) (c - k)) w := by
  rw [run_slice_l w 42 (some ⟨g, o, none⟩) n c el42 .i64 (k : Int) (by omega) (by omega), sz42]
  simp only [Result.andThen, Int.toNat_natCast, sliced, if_neg (show ¬ c = k by omega), Option.map_some, add_at]
def RootIs (l : Dl) (w : World) (e : Ending) (w' : World) : Prop :=
  ∃ d0 d1 d2 d3 : Nat, Hid (root l = [d0, d1, d2, d3]) ∧ e = .returned (.agg #[.int .u32 d0, .int .u32 d1, .int .u32 d2, .int .u32 d3]) ∧ Below w.heap.size w w'
/-- The end of a function whose one result is a digest in a cell of its own. -/
theorem below_new4 {w w1 : World} (o : Obj) (hb : Below (w.alloc o).heap.size (w.alloc o) w1) : Below w.heap.size w w1 :=
  ((Below.refl _ _).alloc (Nat.le_refl _) _).trans (hb.mono (by simp))
set_option maxRecDepth 100000 in
set_option maxHeartbeats 1000000 in
theorem mroot_nil (A : Option Addr) (c : Nat) (w : World) (hT : Turns w) : Calls Tryd.prog 80 #[.slice A 0 c] w fun e w' => RootIs [] w e w' := by
  go_enter Tryd.func80, Tryd.ntmps80
  go_wp2_with fail
  refine (of_lit _ _ ?_ (by decide)).mono ?_
  · exact hT.belowS ((Below.refl _ _).alloc (Nat.le_refl _) _)
  rintro e w1 ⟨d0, d1, d2, d3, hd, rfl, hb1⟩
  have hr1 : Bx w1 w.heap.size 39 (wds [0, 0, 0, 0]) := (Bx.new w 39 _).belowS hb1
  have hB1 := below_new4 _ hb1
  obtain ⟨q0, q1, q2, q3⟩ := hr1.w4c
  obtain ⟨f0, f1, f2, f3⟩ := hr1.w4f
  clear hb1
  go_wp2_with fail
  have hfin := hr1.set4 d0 d1 d2 d3
  refine bodyPost_ret (v := .agg (wds [d0, d1, d2, d3])) (results_cell_row rfl _ _ w.heap.size 39 _ (0, 0) _ rfl hfin Tryd.underlying39 rfl (by kernel_rfl)) rfl ⟨d0, d1, d2, d3, ?_, rfl, below_set4 hB1 (Nat.le_refl _) _ _ _ _⟩
  show root [] = _
  rw [root_nil]; exact hd.out
set_option maxRecDepth 100000 in
set_option maxHeartbeats 1000000 in
theorem mroot_one (A : Option Addr) (c : Nat) (l : Dl) (w : World) (hd : DS w A 1 c l) : Calls Tryd.prog 80 #[.slice A 1 c] w fun e w' => RootIs l w e w' := by
  obtain ⟨g, o, d0, d1, d2, d3, rfl, hg, hw, c0, c1, c2, c3⟩ := hd.dig (k := 0) (by omega)
  rw [Nat.zero_mul, Nat.add_zero] at c0 c1 c2 c3
  have hgl : g < w.heap.size := World.block_lt_of_cell? w _ c0
  have hl := hd.len
  have HR : Hid (root l = [d0, d1, d2, d3]) := by
    match l, hl with
    | [x], _ => show root [x] = _; rw [root_one]; exact hg
  clear hg hl
  go_enter Tryd.func80, Tryd.ntmps80
  go_wp2_with fail
  have hfin := Bx.new w 39 (wds [d0, d1, d2, d3])
  refine bodyPost_ret (v := .agg (wds [d0, d1, d2, d3])) (results_cell_row rfl _ _ w.heap.size 39 _ (0, 0) _ rfl hfin Tryd.underlying39 rfl (by kernel_rfl)) rfl ⟨d0, d1, d2, d3, HR, rfl, (Below.refl _ _).alloc (Nat.le_refl _) _⟩
set_option maxRecDepth 100000 in
set_option maxHeartbeats 1000000 in
theorem mroot_any (N : Nat) : ∀ (l : Dl) (A : Option Addr) (n c : Nat) (w : World), n ≤ N → n ≤ 1000000 → DS w A n c l → Turns w →
    Calls Tryd.prog 80 #[.slice A n c] w fun e w' => RootIs l w e w' := by
  induction N with
  | zero =>
    intro l A n c w hn _ hd hT
    obtain rfl : n = 0 := by omega
    obtain rfl : l = [] := List.eq_nil_of_length_eq_zero hd.len
    exact mroot_nil A c w hT
  | succ N ih =>
    intro l A n c w hn hn6 hd hT
    by_cases h0 : n = 0
    · subst h0
      obtain rfl : l = [] := List.eq_nil_of_length_eq_zero hd.len
      exact mroot_nil A c w hT
    by_cases h1 : n = 1
    · subst h1
      exact mroot_one A c l w hd
    · have IH := Lib.hid ih
      clear ih
      have e0 : ((n : Int) == 0) = false := by simp; omega
      have e1 : ((n : Int) == 1) = false := by simp; omega
      go_enter Tryd.func80, Tryd.ntmps80
      go_wp2_with fail
      refine (half_any n _ hn6).mono ?_
      rintro e w1 ⟨rfl, rfl⟩
      have hk1 := half_lt (n := n) (by omega)
      have hk2 := half_pos n
      have HR : Hid (root l = pairD (root (l.take (half n))) (root (l.drop (half n)))) := by
        have hl := hd.len
        show root l = _
        rw [root_two l (by omega), hl]
      obtain ⟨k, hk⟩ : ∃ k, k = half n := ⟨_, rfl⟩
      rw [← hk] at hk1 hk2 HR ⊢
      clear hk
      go_wp2_with fail
      obtain ⟨g, o, rfl, hdr⟩ := hd.drop hk1
      have hdt := hd.take (k := k) (by omega)
      have hcap := hd.cap
      have hs1 := sl42_h (some ⟨g, o, none⟩) n c k (by omega)
      have hs2 := sl42_l g o n c k (by omega) (by omega)
      have hb0 : Below w.heap.size w (w.alloc (.cells #[.int .u32 0, .int .u32 0, .int .u32 0, .int .u32 0] 39)) := (Below.refl _ _).alloc (Nat.le_refl _) _
      have hr0 : Bx (w.alloc (.cells #[.int .u32 0, .int .u32 0, .int .u32 0, .int .u32 0] 39)) w.heap.size 39 (wds [0, 0, 0, 0]) := Bx.new w 39 _
      have hdr0 := hdr.below hb0
      have hdt0 := hdt.below hb0
      have hT0 := hT.belowS hb0
      have hwt := root_w4 _ hdt.wl
      have hwr := root_w4 _ hdr.wl
      generalize (w.alloc (.cells #[.int .u32 0, .int .u32 0, .int .u32 0, .int .u32 0] 39)) = W at hb0 hr0 hdr0 hdt0 hT0 ⊢
      clear hdr hdt hd hT
      go_region_with (first
        | (go_at_call_of 80 (Value.slice (some ⟨g, o, none⟩) k c); refine (IH.out (l.take k) _ k c _ ?_ ?_ ?_ ?_).mono ?_; omega; omega; exact hdt0.drew; exact hT0; rintro e w1 ⟨a0, a1, a2, a3, ha, rfl, hb1⟩; have hB1 := hb0.drew.trans (hb1.mono hb0.size); have hdr1 := hdr0.drew.below hb1; have hT1 : Turns w1 := Turns.belowS (w := W.drew) hT0 hb1; have hr1 := hr0.drew.belowS hb1)
        | (go_at_call_of 80 (Value.slice (some ⟨g, o + k * 4, none⟩) (n - k) (c - k)); refine (IH.out (l.drop k) _ (n - k) (c - k) _ ?_ ?_ ?_ ?_).mono ?_; omega; omega; exact hdr1; exact hT1; rintro e w2 ⟨b0, b1, b2, b3, hb, rfl, hb2⟩; have hB2 := hB1.trans (hb2.mono hB1.size); have hT2 := hT1.belowS hb2; have hr2 := hr1.belowS hb2)
        | (go_at_call 101; refine (pair_any a0 a1 a2 a3 b0 b1 b2 b3 _ ?_ ?_ ?_).mono ?_; exact hT2; rw [← ha.out]; exact hwt; rw [← hb.out]; exact hwr; rintro e w3 ⟨d0, d1, d2, d3, hd3, rfl, hb3⟩; have hB3 := hB2.trans (hb3.mono hB2.size); have hr3 := hr2.belowS hb3; obtain ⟨q0, q1, q2, q3⟩ := hr3.w4c; obtain ⟨f0, f1, f2, f3⟩ := hr3.w4f))
      all_goals
        go_wp2_with fail
        have hfin := hr3.set4 d0 d1 d2 d3
        refine bodyPost_ret (v := .agg (wds [d0, d1, d2, d3])) (results_cell_row rfl _ _ w.heap.size 39 _ (0, 0) _ rfl hfin Tryd.underlying39 rfl (by kernel_rfl)) rfl ⟨d0, d1, d2, d3, ?_, rfl, below_set4 hB3 (Nat.le_refl _) _ _ _ _⟩
        show root l = _
        rw [HR.out, ha.out, hb.out]; exact hd3.out
end Go.Proofs.YtgpohndnkecbeaaDoor
