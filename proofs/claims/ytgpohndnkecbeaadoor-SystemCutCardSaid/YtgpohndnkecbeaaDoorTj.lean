/- Contract: head.Lost; plain: a beginning of a store's bytes. -/
import Derived.Test.YtgpohndnkecbeaaDoorTi
import Derived.Test.YtgpohndnkecbeaaDoorPi
namespace Go.Proofs.YtgpohndnkecbeaaDoor
open Go Go.RowKit Go.Proofs.Sc
def lostP (l : List ByteArray) (k : Nat) (d : List Nat) : Nat := if l.length < k then 6 else if root (dgs (l.take k)) = d then 0 else 8
set_option maxRecDepth 100000 in
set_option maxHeartbeats 1000000 in
theorem lost_any (A : Option Addr) (n c k : Nat) (l : List ByteArray) (d0 d1 d2 d3 : Nat) (w : World) (hT : Turns w) (hr : Rs w A n 1 (vs l)) (hnc : n ≤ c) (_hn : n ≤ 1000000) (hk : k ≤ 1000000) (hs : ∀ s ∈ l, s.size ≤ 1000000) :
    Calls Tryd.prog 38 #[.agg #[.slice A n c], .agg #[.int .i64 k, .int .u32 d0, .int .u32 d1, .int .u32 d2, .int .u32 d3]] w fun e w' => e = .returned (.int .i64 (lostP l k [d0, d1, d2, d3] : Nat)) ∧ Below w.heap.size w w' := by
  have hl := hr.slen
  obtain ⟨hs0, hh0, hB0⟩ := two_alloc w #[.slice A n c] #[.int .i64 k, .int .u32 d0, .int .u32 d1, .int .u32 d2, .int .u32 d3] 34 46
  by_cases hkn : n < k
  · have hv : lostP l k [d0, d1, d2, d3] = 6 := by rw [lostP, hl, if_pos hkn]
    have HV := Lib.hid hv
    have hkn2 : (n : Int) < (k : Int) := by omega
    clear hv
    go_enter Tryd.func38, Tryd.ntmps38
    go_wp2_with fail
    go_ret
    exact ⟨by rw [HV.out]; rfl, hB0⟩
  · have hkn2 : (k : Int) ≤ (n : Int) := by omega
    have hrt : Rs w A k 1 (vs (l.take k)) := Rs.strTake hr (by omega)
    have hst : ∀ s ∈ l.take k, s.size ≤ 1000000 := fun s h => hs s (List.mem_of_mem_take h)
    have hsl := sl22_h A n c k (by omega)
    have hdn : decide ((n : Int) < (k : Int)) = false := by simp; omega
    have hdn2 : decide (n < k) = false := by simp; omega
    obtain ⟨v, hv⟩ : ∃ v, v = lostP l k [d0, d1, d2, d3] := ⟨_, rfl⟩
    by_cases hx : root (dgs (l.take k)) = [d0, d1, d2, d3]
    · have hv0 : lostP l k [d0, d1, d2, d3] = 0 := by rw [lostP, hl, if_neg hkn, if_pos hx]
      have HV := Lib.hid hv0
      have HX := Lib.hid hx
      clear hv hv0 hx hl
      go_enter Tryd.func38, Tryd.ntmps38
      go_wp2_with fail
      generalize ((w.alloc (.cells #[.slice A n c] 34)).alloc (.cells #[.int .i64 k, .int .u32 d0, .int .u32 d1, .int .u32 d2, .int .u32 d3] 46)) = W at hs0 hh0 hB0 ⊢
      have hTW := hT.belowS hB0
      have hrW := hrt.below hB0
      have s0 : W.cell? ⟨w.heap.size, 0, none⟩ = some (.slice A n c) := hs0.cell 0
      have k0 : W.cell? ⟨w.heap.size + 1, 0, none⟩ = some (.int .i64 k) := hh0.cell 0
      have k1 : W.cell? ⟨w.heap.size + 1, 1, none⟩ = some (.int .u32 d0) := hh0.cell 1
      have k2 : W.cell? ⟨w.heap.size + 1, 2, none⟩ = some (.int .u32 d1) := hh0.cell 2
      have k3 : W.cell? ⟨w.heap.size + 1, 3, none⟩ = some (.int .u32 d2) := hh0.cell 3
      have k4 : W.cell? ⟨w.heap.size + 1, 4, none⟩ = some (.int .u32 d3) := hh0.cell 4
      go_region_held3 (fun X : World => X.cell? ⟨w.heap.size, 0, none⟩ = some (.slice A n c) ∧ X.cell? ⟨w.heap.size + 1, 0, none⟩ = some (.int .i64 k) ∧ X.cell? ⟨w.heap.size + 1, 1, none⟩ = some (.int .u32 d0) ∧ X.cell? ⟨w.heap.size + 1, 2, none⟩ = some (.int .u32 d1) ∧ X.cell? ⟨w.heap.size + 1, 3, none⟩ = some (.int .u32 d2) ∧ X.cell? ⟨w.heap.size + 1, 4, none⟩ = some (.int .u32 d3)) (go_keep) (first
        | (go_at_call 32; refine (head_any A k c (l.take k) _ ?_ ?_ hk hst).mono ?_; exact hTW; exact hrW; rintro e w1 ⟨x0, x1, x2, x3, hxx, rfl, hb1⟩; have hB1 := hB0.drew.trans (hb1.mono hB0.size); have hs1 := hs0.drew.belowS hb1; have hh1 := hh0.drew.belowS hb1; have t0 : w1.cell? ⟨w.heap.size, 0, none⟩ = some (.slice A n c) := hs1.cell 0; have j0 : w1.cell? ⟨w.heap.size + 1, 0, none⟩ = some (.int .i64 k) := hh1.cell 0; have j1 : w1.cell? ⟨w.heap.size + 1, 1, none⟩ = some (.int .u32 d0) := hh1.cell 1; have j2 : w1.cell? ⟨w.heap.size + 1, 2, none⟩ = some (.int .u32 d1) := hh1.cell 2; have j3 : w1.cell? ⟨w.heap.size + 1, 3, none⟩ = some (.int .u32 d2) := hh1.cell 3; have j4 : w1.cell? ⟨w.heap.size + 1, 4, none⟩ = some (.int .u32 d3) := hh1.cell 4; have heq := eq_head k k x0 x1 x2 x3 d0 d1 d2 d3; have hde : [x0, x1, x2, x3] = [d0, d1, d2, d3] := (by rw [← hxx.out]; exact HX.out); rw [decide_eq_true rfl, decide_eq_true hde, Bool.and_self] at heq; clear hde))
      all_goals
        go_wp2_with fail
        go_ret
        exact ⟨by rw [HV.out]; rfl, hB1⟩
    · have hv0 : lostP l k [d0, d1, d2, d3] = 8 := by rw [lostP, hl, if_neg hkn, if_neg hx]
      have HV := Lib.hid hv0
      have HX := Lib.hid hx
      clear hv hv0 hx hl
      go_enter Tryd.func38, Tryd.ntmps38
      go_wp2_with fail
      generalize ((w.alloc (.cells #[.slice A n c] 34)).alloc (.cells #[.int .i64 k, .int .u32 d0, .int .u32 d1, .int .u32 d2, .int .u32 d3] 46)) = W at hs0 hh0 hB0 ⊢
      have hTW := hT.belowS hB0
      have hrW := hrt.below hB0
      have s0 : W.cell? ⟨w.heap.size, 0, none⟩ = some (.slice A n c) := hs0.cell 0
      have k0 : W.cell? ⟨w.heap.size + 1, 0, none⟩ = some (.int .i64 k) := hh0.cell 0
      have k1 : W.cell? ⟨w.heap.size + 1, 1, none⟩ = some (.int .u32 d0) := hh0.cell 1
      have k2 : W.cell? ⟨w.heap.size + 1, 2, none⟩ = some (.int .u32 d1) := hh0.cell 2
      have k3 : W.cell? ⟨w.heap.size + 1, 3, none⟩ = some (.int .u32 d2) := hh0.cell 3
      have k4 : W.cell? ⟨w.heap.size + 1, 4, none⟩ = some (.int .u32 d3) := hh0.cell 4
      go_region_held3 (fun X : World => X.cell? ⟨w.heap.size, 0, none⟩ = some (.slice A n c) ∧ X.cell? ⟨w.heap.size + 1, 0, none⟩ = some (.int .i64 k) ∧ X.cell? ⟨w.heap.size + 1, 1, none⟩ = some (.int .u32 d0) ∧ X.cell? ⟨w.heap.size + 1, 2, none⟩ = some (.int .u32 d1) ∧ X.cell? ⟨w.heap.size + 1, 3, none⟩ = some (.int .u32 d2) ∧ X.cell? ⟨w.heap.size + 1, 4, none⟩ = some (.int .u32 d3)) (go_keep) (first
        | (go_at_call 32; refine (head_any A k c (l.take k) _ ?_ ?_ hk hst).mono ?_; exact hTW; exact hrW; rintro e w1 ⟨x0, x1, x2, x3, hxx, rfl, hb1⟩; have hB1 := hB0.drew.trans (hb1.mono hB0.size); have hs1 := hs0.drew.belowS hb1; have hh1 := hh0.drew.belowS hb1; have t0 : w1.cell? ⟨w.heap.size, 0, none⟩ = some (.slice A n c) := hs1.cell 0; have j0 : w1.cell? ⟨w.heap.size + 1, 0, none⟩ = some (.int .i64 k) := hh1.cell 0; have j1 : w1.cell? ⟨w.heap.size + 1, 1, none⟩ = some (.int .u32 d0) := hh1.cell 1; have j2 : w1.cell? ⟨w.heap.size + 1, 2, none⟩ = some (.int .u32 d1) := hh1.cell 2; have j3 : w1.cell? ⟨w.heap.size + 1, 3, none⟩ = some (.int .u32 d2) := hh1.cell 3; have j4 : w1.cell? ⟨w.heap.size + 1, 4, none⟩ = some (.int .u32 d3) := hh1.cell 4; have heq := eq_head k k x0 x1 x2 x3 d0 d1 d2 d3; have hde : ¬ [x0, x1, x2, x3] = [d0, d1, d2, d3] := (by rw [← hxx.out]; exact HX.out); rw [decide_eq_true rfl, decide_eq_false hde, Bool.and_false] at heq; clear hde))
      all_goals
        go_wp2_with fail
        go_ret
        exact ⟨by rw [HV.out]; rfl, hB1⟩
theorem few_small {l : List ByteArray} {m : Nat} (hm : m < 4294967296) (hs : ∀ s ∈ l, s.size ≤ m) : ∀ r ∈ lsts l, r.length < 4294967296 := by
  intro r hr
  obtain ⟨s, h, rfl⟩ := List.mem_map.1 hr
  have := hs s h
  rw [size_list]
  omega
/-- A beginning of a store's bytes gives the first items: those that are whole. -/
theorem open_cut {l rs : List ByteArray} {k : Nat} (hl : l.length ≤ 1000) (hs : ∀ r ∈ lsts l, r.length < 4294967296) (hri : rightP l) (h : lsts rs = reads 1000 ((putB (lsts l)).take k)) (hk : k ≤ total (lsts l)) :
    ∃ many, many ≤ l.length ∧ rs = l.take many ∧ openP rs = l.take many ∧ total (lsts rs) ≤ k ∧ (many < l.length → k < total (lsts l)) ∧ (many = l.length → k = total (lsts l)) := by
  obtain ⟨many, hm, h1, h2⟩ := cut_many (lsts l) k
  rw [lsts_len] at hm h2
  have e : lsts rs = (lsts l).take many := by
    rw [h]
    exact reads_cut (lsts l) k many 1000 (by rw [lsts_len]; exact hm) (by omega) hs h1 (by rw [lsts_len]; exact h2)
  have e2 : (lsts l).take many = lsts (l.take many) := by simp [lsts]
  obtain rfl : rs = l.take many := lsts_inj (e.trans e2)
  refine ⟨many, hm, rfl, open_right (right_take hri many), by rw [← e2]; exact h1, fun h => Nat.lt_of_lt_of_le (h2 h) (total_take_le _ _), fun h => ?_⟩
  rw [List.take_of_length_le (by rw [lsts_len, h]; exact Nat.le_refl _)] at h1
  omega
end Go.Proofs.YtgpohndnkecbeaaDoor
