/- Contracts: store.find, ref42.Find. -/
import Derived.Test.YtgpohndnkecbeaaDoorSd
import Derived.Test.YtgpohndnkecbeaaDoorPh
import Derived.Deep.RegionHeld3
namespace Go.Proofs.YtgpohndnkecbeaaDoor
open Go Go.RowKit Go.Proofs.Sc
/-- digest.Of, its four words written out, of a text of a store. -/
theorem of_dg (s : ByteArray) (w : World) (hT : Turns w) (hn : s.size ≤ 1000000) :
    Calls Tryd.prog 29 #[.string s] w fun e w' => ∃ d0 d1 d2 d3 : Nat, Hid (dg s = [d0, d1, d2, d3]) ∧ e = .returned (.agg #[.int .u32 d0, .int .u32 d1, .int .u32 d2, .int .u32 d3]) ∧ Below w.heap.size w w' := of_lit s w hT hn
theorem rof_dg (s : ByteArray) (w : World) (hn : s.size ≤ 1000000) :
    Calls Tryd.prog 54 #[.string s] w fun e w' => ∃ d0 d1 d2 d3 : Nat, Hid (dg s = [d0, d1, d2, d3]) ∧ e = .returned (.agg #[.int .u32 d0, .int .u32 d1, .int .u32 d2, .int .u32 d3]) ∧ Below w.heap.size w w' := rof_lit s w hn
set_option maxRecDepth 100000 in
set_option maxHeartbeats 400000 in
theorem find1_any (a : ByteArray) (b d0 d1 d2 d3 : Nat) (w : World) (hT : Turns w) (hb : Bx w b 39 (wds [d0, d1, d2, d3])) (hn : a.size ≤ 1000000) :
    Calls Tryd.prog 97 #[.string a, .pointer (some ⟨b, 0, none⟩)] w fun e w' => e = .returned (.bool (decide (dg a = [d0, d1, d2, d3]))) ∧ Below w.heap.size w w' := by
  obtain ⟨c0, c1, c2, c3⟩ := hb.w4c
  go_enter Tryd.func97, Tryd.ntmps97
  go_wp2_with fail
  go_region_held3 (fun X : World => X.cell? ⟨b, 0, none⟩ = some (.int .u32 (d0 : Nat)) ∧ X.cell? ⟨b, 1, none⟩ = some (.int .u32 (d1 : Nat)) ∧ X.cell? ⟨b, 2, none⟩ = some (.int .u32 (d2 : Nat)) ∧ X.cell? ⟨b, 3, none⟩ = some (.int .u32 (d3 : Nat))) (go_keep) (first
    | (go_at_call 29; refine (of_dg a _ ?_ hn).mono ?_; exact hT; rintro e w1 ⟨e0, e1, e2, e3, he, rfl, hb1⟩; have hb2 := hb.drew.belowS hb1; obtain ⟨k0, k1, k2, k3⟩ := hb2.w4c; have heq := eq_dig e0 e1 e2 e3 d0 d1 d2 d3; obtain ⟨q, hq⟩ : ∃ q, q = decide ([e0, e1, e2, e3] = [d0, d1, d2, d3]) := ⟨_, rfl⟩; rw [← hq] at heq; have HQ := Lib.hid hq; clear hq))
  all_goals
    go_wp2_with fail
    go_ret
    exact ⟨by rw [HQ.out, he.out]; rfl, (Below.refl w.heap.size w).drew.trans hb1⟩
def FindRel (w : World) (n : Nat) (l : List ByteArray) (d : List Nat) (i : Value) (wr : World) : Prop :=
  ∃ k : Nat, k ≤ n ∧ i = .int .i64 k ∧ (∀ j, j < k → dg (gs l j) ≠ d) ∧ Below w.heap.size w wr
def findI (o : Option Nat) : Int := match o with | some i => i | none => -1
set_option maxRecDepth 100000 in
set_option maxHeartbeats 1000000 in
theorem index_any (A : Option Addr) (n c : Nat) (l : List ByteArray) (b d0 d1 d2 d3 : Nat) (w : World) (hT : Turns w) (hb : Bx w b 39 (wds [d0, d1, d2, d3])) (hr : Rs w A n 1 (vs l)) (hn : n ≤ 1000000) (hs : ∀ s ∈ l, s.size ≤ 1000000) :
    Calls Tryd.prog 96 #[.slice A n c, .func (.func 97) #[] #[.pointer (some ⟨b, 0, none⟩)]] w fun e w' => e = .returned (.int .i64 (findI (findP l [d0, d1, d2, d3]))) ∧ Below w.heap.size w w' := by
  have hl := hr.slen
  go_enter Tryd.func96, Tryd.ntmps96
  go_wp2_with fail
  go_loopw [8] (fun i wr => FindRel w n l [d0, d1, d2, d3] i wr) (fun i _ => n - (intOf i).toNat)
  case atStart => exact ⟨0, by omega, rfl, by omega, Below.refl _ _⟩
  case round =>
    obtain ⟨k, hk, rfl, hno, hB⟩ := hrel
    obtain ⟨w2, rfl⟩ : ∃ w2 : World, w2 = wr := ⟨_, rfl⟩
    have HN := Lib.hid hno
    clear hno
    by_cases hlt : k < n
    · obtain ⟨g, o, rfl, hc⟩ := (hr.below hB).str hlt
      have hsz : (gs l k).size ≤ 1000000 := hs _ (by simp [gs, show k < l.length by omega])
      have hfa := findP_at l [d0, d1, d2, d3] k (by omega) HN.out
      obtain ⟨R, hR⟩ : ∃ R, R = gs l k := ⟨_, rfl⟩
      rw [← hR] at hc hsz hfa
      have HR := Lib.hid hR
      have HF := Lib.hid hfa
      have hd : decide (k < n) = true := by simp; omega
      clear hR hfa
      go_wp2_with fail
      refine (find1_any R b d0 d1 d2 d3 w2 (hT.belowS hB) (hb.belowS hB) hsz).mono ?_
      rintro e w3 ⟨rfl, hb3⟩
      have hB3 := hB.trans (hb3.mono hB.size)
      by_cases he : dg R = [d0, d1, d2, d3]
      · have hfi := HF.out he
        rw [decide_eq_true he]
        have HFI := Lib.hid hfi
        clear hfi he
        go_wp2_with fail
        go_ret
        exact ⟨by rw [HFI.out]; rfl, hB3⟩
      · rw [decide_eq_false he]
        have HE := Lib.hid he
        clear he
        go_wp2_with fail
        refine ⟨⟨k + 1, by omega, by go_num, ?_, hB3⟩, by simp [intOf]; omega⟩
        intro j hj
        rcases Nat.lt_or_ge j k with h | h
        · exact HN.out j h
        · obtain rfl : j = k := by omega
          rw [← HR.out]; exact HE.out
    · obtain rfl : k = n := by omega
      have hfi := findP_no l [d0, d1, d2, d3] (fun j hj => HN.out j (by omega))
      have HFI := Lib.hid hfi
      clear hfi
      go_wp2_with fail
      go_ret
      exact ⟨by rw [HFI.out]; rfl, hB⟩
def RFindRel (w : World) (n c : Nat) (A : Option Addr) (l : List ByteArray) (d : List Nat) (i : Value) (wr : World) : Prop :=
  ∃ k : Nat, k ≤ n ∧ i = .int .i64 k ∧ (∀ j, j < k → dg (gs l j) ≠ d) ∧ Bx wr w.heap.size 34 #[.slice A n c] ∧ Bx wr (w.heap.size + 1) 39 (wds d) ∧ Below w.heap.size w wr
set_option maxRecDepth 100000 in
set_option maxHeartbeats 1000000 in
theorem rfind_any (A : Option Addr) (n c : Nat) (l : List ByteArray) (d0 d1 d2 d3 : Nat) (w : World) (hr : Rs w A n 1 (vs l)) (hn : n ≤ 1000000) (hs : ∀ s ∈ l, s.size ≤ 1000000) :
    Calls Tryd.prog 77 #[.agg #[.slice A n c], .agg #[.int .u32 d0, .int .u32 d1, .int .u32 d2, .int .u32 d3]] w fun e w' => e = .returned (.int .i64 (findI (findP l [d0, d1, d2, d3]))) ∧ Below w.heap.size w w' := by
  have hl := hr.slen
  go_enter Tryd.func77, Tryd.ntmps77
  have hB0 : Below w.heap.size w ((w.alloc (.cells #[.slice A n c] 34)).alloc (.cells #[.int .u32 d0, .int .u32 d1, .int .u32 d2, .int .u32 d3] 39)) := ((Below.refl _ _).alloc (Nat.le_refl _) _).alloc (by simp) _
  have hst0 : Bx ((w.alloc (.cells #[.slice A n c] 34)).alloc (.cells #[.int .u32 d0, .int .u32 d1, .int .u32 d2, .int .u32 d3] 39)) w.heap.size 34 #[.slice A n c] := (Bx.new w 34 _).alloc _
  have hdb0 : Bx ((w.alloc (.cells #[.slice A n c] 34)).alloc (.cells #[.int .u32 d0, .int .u32 d1, .int .u32 d2, .int .u32 d3] 39)) (w.heap.size + 1) 39 (wds [d0, d1, d2, d3]) := by
    have := Bx.new (w.alloc (.cells #[.slice A n c] 34)) 39 (wds [d0, d1, d2, d3])
    rw [World.size_alloc] at this
    exact this
  go_wp2_with fail
  go_loopw [5] (fun i wr => RFindRel w n c A l [d0, d1, d2, d3] i wr) (fun i _ => n - (intOf i).toNat)
  case atStart => exact ⟨0, by omega, rfl, by omega, hst0, hdb0, hB0⟩
  case round =>
    obtain ⟨k, hk, rfl, hno, hst, hdb, hB⟩ := hrel
    clear hB0 hst0 hdb0
    obtain ⟨w2, rfl⟩ : ∃ w2 : World, w2 = wr := ⟨_, rfl⟩
    have HN := Lib.hid hno
    clear hno
    obtain ⟨b0, b1, b2, b3⟩ := hdb.w4c
    have s0 : w2.cell? ⟨w.heap.size, 0, none⟩ = some (.slice A n c) := hst.cell 0
    by_cases hlt : k < n
    · obtain ⟨g, o, rfl, hc0⟩ := hr.str hlt
      have hgl : g < w.heap.size := World.block_lt_of_cell? w _ hc0
      have hc := (hB.cell (p := ⟨g, o + k, none⟩) hgl).trans hc0
      have hsz : (gs l k).size ≤ 1000000 := hs _ (by simp [gs, show k < l.length by omega])
      have hfa := findP_at l [d0, d1, d2, d3] k (by omega) HN.out
      obtain ⟨R, hR⟩ : ∃ R, R = gs l k := ⟨_, rfl⟩
      rw [← hR] at hc hsz hfa
      have HR := Lib.hid hR
      have HF := Lib.hid hfa
      have HC0 : Hid (w.cell? ⟨g, o + k, none⟩ = some (.string R)) := (hB.cell (p := ⟨g, o + k, none⟩) hgl).symm.trans hc
      have hd : decide (k < n) = true := by simp; omega
      have hkn : (k : Int) < (n : Int) := by omega
      clear hR hfa hc0
      go_wp2_with fail
      go_region_held3 (fun X : World => X.cell? ⟨w.heap.size, 0, none⟩ = some (.slice (some ⟨g, o, none⟩) n c) ∧ X.cell? ⟨g, o + k, none⟩ = some (.string R) ∧ X.cell? ⟨w.heap.size + 1, 0, none⟩ = some (.int .u32 (d0 : Nat)) ∧ X.cell? ⟨w.heap.size + 1, 1, none⟩ = some (.int .u32 (d1 : Nat)) ∧ X.cell? ⟨w.heap.size + 1, 2, none⟩ = some (.int .u32 (d2 : Nat)) ∧ X.cell? ⟨w.heap.size + 1, 3, none⟩ = some (.int .u32 (d3 : Nat))) (go_keep) (first
        | (go_at_call 54; refine (rof_dg R _ hsz).mono ?_; rintro e w3 ⟨e0, e1, e2, e3, he, rfl, hb3⟩; have hst3 := hst.drew.belowS hb3; have hdb3 := hdb.drew.belowS hb3; have s3 : w3.cell? ⟨w.heap.size, 0, none⟩ = some (.slice (some ⟨g, o, none⟩) n c) := hst3.cell 0; obtain ⟨k0, k1, k2, k3⟩ := hdb3.w4c; have hB3 := hB.drew.trans (hb3.mono hB.size); have hc3 : w3.cell? ⟨g, o + k, none⟩ = some (.string R) := (hB3.cell (p := ⟨g, o + k, none⟩) hgl).trans HC0.out; have heq := eq_dig e0 e1 e2 e3 d0 d1 d2 d3; obtain ⟨q, hq⟩ : ∃ q, q = decide ([e0, e1, e2, e3] = [d0, d1, d2, d3]) := ⟨_, rfl⟩; rw [← hq] at heq; have HQ := Lib.hid hq; clear hq))
      all_goals
        have hqe : q = decide (dg R = [d0, d1, d2, d3]) := by rw [HQ.out, he.out]
        by_cases hee : dg R = [d0, d1, d2, d3]
        · have hfi := HF.out hee
          rw [decide_eq_true hee] at hqe
          subst hqe
          have HFI := Lib.hid hfi
          clear hfi hee heq
          go_wp2_with fail
          go_ret
          exact ⟨by rw [HFI.out]; rfl, hB3⟩
        · rw [decide_eq_false hee] at hqe
          subst hqe
          have HE := Lib.hid hee
          clear hee heq
          go_wp2_with fail
          refine ⟨⟨k + 1, by omega, by go_num, ?_, hst3, hdb3, hB3⟩, by simp [intOf]; omega⟩
          intro j hj
          rcases Nat.lt_or_ge j k with h | h
          · exact HN.out j h
          · obtain rfl : j = k := by omega
            rw [← HR.out]; exact HE.out
    · obtain rfl : k = n := by omega
      have hfi := findP_no l [d0, d1, d2, d3] (fun j hj => HN.out j (by omega))
      have HFI := Lib.hid hfi
      clear hfi
      go_wp2_with fail
      go_ret
      exact ⟨by rw [HFI.out]; rfl, hB⟩
set_option maxRecDepth 100000 in
set_option maxHeartbeats 1000000 in
theorem find_any (A : Option Addr) (n c : Nat) (l : List ByteArray) (d0 d1 d2 d3 : Nat) (w : World) (hT : Turns w) (hr : Rs w A n 1 (vs l)) (hn : n ≤ 1000000) (hs : ∀ s ∈ l, s.size ≤ 1000000) :
    Calls Tryd.prog 67 #[.agg #[.slice A n c], .agg #[.int .u32 d0, .int .u32 d1, .int .u32 d2, .int .u32 d3]] w fun e w' => e = .returned (.int .i64 (findI (findP l [d0, d1, d2, d3]))) ∧ Below w.heap.size w w' := by
  have hl := hr.slen
  go_enter Tryd.func67, Tryd.ntmps67
  have hB0 : Below w.heap.size w ((w.alloc (.cells #[.slice A n c] 34)).alloc (.cells #[.int .u32 d0, .int .u32 d1, .int .u32 d2, .int .u32 d3] 39)) := ((Below.refl _ _).alloc (Nat.le_refl _) _).alloc (by simp) _
  have hdb : Bx ((w.alloc (.cells #[.slice A n c] 34)).alloc (.cells #[.int .u32 d0, .int .u32 d1, .int .u32 d2, .int .u32 d3] 39)) (w.heap.size + 1) 39 (wds [d0, d1, d2, d3]) := by
    have := Bx.new (w.alloc (.cells #[.slice A n c] 34)) 39 (wds [d0, d1, d2, d3])
    rw [World.size_alloc] at this
    exact this
  go_wp2_with fail
  refine (index_any A n c l (w.heap.size + 1) d0 d1 d2 d3 _ (hT.belowS hB0) hdb (hr.below hB0) hn hs).mono ?_
  rintro e w1 ⟨rfl, hb1⟩
  have hB1 := hB0.trans (hb1.mono hB0.size)
  go_wp2_with fail
  go_ret
  exact ⟨rfl, hB1⟩
end Go.Proofs.YtgpohndnkecbeaaDoor
