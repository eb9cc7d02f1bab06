/- Contracts: store.find, ref42.Find. Contracts: store.digests, ref42.Digests. Contracts: store.Root, Head, Prove, and the reference's. -/
import Derived.Test.YtgpohndnkecbeaaDoorTa
import Derived.Test.YtgpohndnkecbeaaDoorPh
import Derived.Deep.RegionHeld3
import Derived.Deep.RegionLaw
import Derived.Deep.Onto
import Derived.RangeFuncBox
namespace Go.Proofs.YtgpohndnkecbeaaDoor
open Go Go.RowKit Go.Proofs.Sc
/-- digest.Of, its four words written out, of a text of a store. -/
theorem of_dg (s : ByteArray) (w : World) (hT : Turns w) (hn : s.size ≤ 1000000) :
    Calls Tryd.prog 29 #[.string s] w fun e w' => ∃ d0 d1 d2 d3 : Nat, Hid (dg s = [d0, d1, d2, d3]) ∧ e = .returned (.agg #[.int .u32 d0, .int .u32 d1, .int .u32 d2, .int .u32 d3]) ∧ Below w.heap.size w w' := of_lit s w hT hn
theorem rof_dg (s : ByteArray) (w : World) (hn : s.size ≤ 1000000) :
    Calls Tryd.prog 54 #[.string s] w fun e w' => ∃ d0 d1 d2 d3 : Nat, Hid (dg s = [d0, d1, d2, d3]) ∧ e = .returned (.agg #[.int .u32 d0, .int .u32 d1, .int .u32 d2, .int .u32 d3]) ∧ Below w.heap.size w w' := rof_lit s w hn
set_option maxRecDepth 100000 in
set_option maxHeartbeats 400000 in
theorem find1_any (a : ByteArray) (b d0 d1 d2 d3 : Nat) (w : World) (hT : Turns w) (hb : Bx w b 39 (wds [d0, d1, d2, d3])) (hn : a.size ≤ 1000000) :
    Calls Tryd.prog 97 #[.string a, .pointer (some ⟨b, 0, none⟩)] w fun e w' => e = .returned (.bool (decide (dg a = [d0, d1, d2, d3]))) ∧ Below w.heap.size w w' := by
  obtain ⟨c0, c1, c2, c3⟩ := hb.w4c
  go_enter Tryd.func97, Tryd.ntmps97
  go_wp2_with fail
  go_region_held3 (fun X : World => X.cell? ⟨b, 0, none⟩ = some (.int .u32 (d0 : Nat)) ∧ X.cell? ⟨b, 1, none⟩ = some (.int .u32 (d1 : Nat)) ∧ X.cell? ⟨b, 2, none⟩ = some (.int .u32 (d2 : Nat)) ∧ X.cell? ⟨b, 3, none⟩ = some (.int .u32 (d3 : Nat))) (go_keep) (first
    | (go_at_call 29; refine (of_dg a _ ?_ hn).mono ?_; exact hT; rintro e w1 ⟨e0, e1, e2, e3, he, rfl, hb1⟩; have hb2 := hb.drew.belowS hb1; obtain ⟨k0, k1, k2, k3⟩ := hb2.w4c; have heq := eq_dig e0 e1 e2 e3 d0 d1 d2 d3; obtain ⟨q, hq⟩ : ∃ q, q = decide ([e0, e1, e2, e3] = [d0, d1, d2, d3]) := ⟨_, rfl⟩; rw [← hq] at heq; have HQ := Lib.hid hq; clear hq))
  all_goals
    go_wp2_with fail
    go_ret
    exact ⟨by rw [HQ.out, he.out]; rfl, (Below.refl w.heap.size w).drew.trans hb1⟩
def FindRel (w : World) (n : Nat) (l : List ByteArray) (d : List Nat) (i : Value) (wr : World) : Prop :=
  ∃ k : Nat, k ≤ n ∧ i = .int .i64 k ∧ (∀ j, j < k → dg (gs l j) ≠ d) ∧ Below w.heap.size w wr
def findI (o : Option Nat) : Int := match o with | some i => i | none => -1
set_option maxRecDepth 100000 in
set_option maxHeartbeats 1000000 in
theorem index_any (A : Option Addr) (n c : Nat) (l : List ByteArray) (b d0 d1 d2 d3 : Nat) (w : World) (hT : Turns w) (hb : Bx w b 39 (wds [d0, d1, d2, d3])) (hr : Rs w A n 1 (vs l)) (hn : n ≤ 1000000) (hs : ∀ s ∈ l, s.size ≤ 1000000) :
    Calls Tryd.prog 96 #[.slice A n c, .func (.func 97) #[] #[.pointer (some ⟨b, 0, none⟩)]] w fun e w' => e = .returned (.int .i64 (findI (findP l [d0, d1, d2, d3]))) ∧ Below w.heap.size w w' := by
  have hl := hr.slen
  go_enter Tryd.func96, Tryd.ntmps96
  go_wp2_with fail
  go_loopw [8] (fun i wr => FindRel w n l [d0, d1, d2, d3] i wr) (fun i _ => n - (intOf i).toNat)
  case atStart => exact ⟨0, by omega, rfl, by omega, Below.refl _ _⟩
  case round =>
    obtain ⟨k, hk, rfl, hno, hB⟩ := hrel
    obtain ⟨w2, rfl⟩ : ∃ w2 : World, w2 = wr := ⟨_, rfl⟩
    have HN := Lib.hid hno
    clear hno
    by_cases hlt : k < n
    · obtain ⟨g, o, rfl, hc⟩ := (hr.below hB).str hlt
      have hsz : (gs l k).size ≤ 1000000 := hs _ (by simp [gs, show k < l.length by omega])
      have hfa := findP_at l [d0, d1, d2, d3] k (by omega) HN.out
      obtain ⟨R, hR⟩ : ∃ R, R = gs l k := ⟨_, rfl⟩
      rw [← hR] at hc hsz hfa
      have HR := Lib.hid hR
      have HF := Lib.hid hfa
      have hd : decide (k < n) = true := by simp; omega
      clear hR hfa
      go_wp2_with fail
      refine (find1_any R b d0 d1 d2 d3 w2 (hT.belowS hB) (hb.belowS hB) hsz).mono ?_
      rintro e w3 ⟨rfl, hb3⟩
      have hB3 := hB.trans (hb3.mono hB.size)
      by_cases he : dg R = [d0, d1, d2, d3]
      · have hfi := HF.out he
        rw [decide_eq_true he]
        have HFI := Lib.hid hfi
        clear hfi he
        go_wp2_with fail
        go_ret
        exact ⟨by rw [HFI.out]; rfl, hB3⟩
      · rw [decide_eq_false he]
        have HE := Lib.hid he
        clear he
        go_wp2_with fail
        refine ⟨⟨k + 1, by omega, by go_num, ?_, hB3⟩, by simp [intOf]; omega⟩
        intro j hj
        rcases Nat.lt_or_ge j k with h | h
        · exact HN.out j h
        · obtain rfl : j = k := by omega
          rw [← HR.out]; exact HE.out
    · obtain rfl : k = n := by omega
      have hfi := findP_no l [d0, d1, d2, d3] (fun j hj => HN.out j (by omega))
      have HFI := Lib.hid hfi
      clear hfi
      go_wp2_with fail
      go_ret
      exact ⟨by rw [HFI.out]; rfl, hB⟩
def RFindRel (w : World) (n c : Nat) (A : Option Addr) (l : List ByteArray) (d : List Nat) (i : Value) (wr : World) : Prop :=
  ∃ k : Nat, k ≤ n ∧ i = .int .i64 k ∧ (∀ j, j < k → dg (gs l j) ≠ d) ∧ Bx wr w.heap.size 34 #[.slice A n c] ∧ Bx wr (w.heap.size + 1) 39 (wds d) ∧ Below w.heap.size w wr
set_option maxRecDepth 100000 in
set_option maxHeartbeats 1000000 in
theorem rfind_any (A : Option Addr) (n c : Nat) (l : List ByteArray) (d0 d1 d2 d3 : Nat) (w : World) (hr : Rs w A n 1 (vs l)) (hn : n ≤ 1000000) (hs : ∀ s ∈ l, s.size ≤ 1000000) :
    Calls Tryd.prog 77 #[.agg #[.slice A n c], .agg #[.int .u32 d0, .int .u32 d1, .int .u32 d2, .int .u32 d3]] w fun e w' => e = .returned (.int .i64 (findI (findP l [d0, d1, d2, d3]))) ∧ Below w.heap.size w w' := by
  have hl := hr.slen
  go_enter Tryd.func77, Tryd.ntmps77
  have hB0 : Below w.heap.size w ((w.alloc (.cells #[.slice A n c] 34)).alloc (.cells #[.int .u32 d0, .int .u32 d1, .int .u32 d2, .int .u32 d3] 39)) := ((Below.refl _ _).alloc (Nat.le_refl _) _).alloc (by simp) _
  have hst0 : Bx ((w.alloc (.cells #[.slice A n c] 34)).alloc (.cells #[.int .u32 d0, .int .u32 d1, .int .u32 d2, .int .u32 d3] 39)) w.heap.size 34 #[.slice A n c] := (Bx.new w 34 _).alloc _
  have hdb0 : Bx ((w.alloc (.cells #[.slice A n c] 34)).alloc (.cells #[.int .u32 d0, .int .u32 d1, .int .u32 d2, .int .u32 d3] 39)) (w.heap.size + 1) 39 (wds [d0, d1, d2, d3]) := by
    have := Bx.new (w.alloc (.cells #[.slice A n c] 34)) 39 (wds [d0, d1, d2, d3])
    rw [World.size_alloc] at this
    exact this
  go_wp2_with fail
  go_loopw [5] (fun i wr => RFindRel w n c A l [d0, d1, d2, d3] i wr) (fun i _ => n - (intOf i).toNat)
  case atStart => exact ⟨0, by omega, rfl, by omega, hst0, hdb0, hB0⟩
  case round =>
    obtain ⟨k, hk, rfl, hno, hst, hdb, hB⟩ := hrel
    clear hB0 hst0 hdb0
    obtain ⟨w2, rfl⟩ : ∃ w2 : World, w2 = wr := ⟨_, rfl⟩
    have HN := Lib.hid hno
    clear hno
    obtain ⟨b0, b1, b2, b3⟩ := hdb.w4c
    have s0 : w2.cell? ⟨w.heap.size, 0, none⟩ = some (.slice A n c) := hst.cell 0
    by_cases hlt : k < n
    · obtain ⟨g, o, rfl, hc0⟩ := hr.str hlt
      have hgl : g < w.heap.size := World.block_lt_of_cell? w _ hc0
      have hc := (hB.cell (p := ⟨g, o + k, none⟩) hgl).trans hc0
      have hsz : (gs l k).size ≤ 1000000 := hs _ (by simp [gs, show k < l.length by omega])
      have hfa := findP_at l [d0, d1, d2, d3] k (by omega) HN.out
      obtain ⟨R, hR⟩ : ∃ R, R = gs l k := ⟨_, rfl⟩
      rw [← hR] at hc hsz hfa
      have HR := Lib.hid hR
      have HF := Lib.hid hfa
      have HC0 : Hid (w.cell? ⟨g, o + k, none⟩ = some (.string R)) := (hB.cell (p := ⟨g, o + k, none⟩) hgl).symm.trans hc
      have hd : decide (k < n) = true := by simp; omega
      have hkn : (k : Int) < (n : Int) := by omega
      clear hR hfa hc0
      go_wp2_with fail
      go_region_held3 (fun X : World => X.cell? ⟨w.heap.size, 0, none⟩ = some (.slice (some ⟨g, o, none⟩) n c) ∧ X.cell? ⟨g, o + k, none⟩ = some (.string R) ∧ X.cell? ⟨w.heap.size + 1, 0, none⟩ = some (.int .u32 (d0 : Nat)) ∧ X.cell? ⟨w.heap.size + 1, 1, none⟩ = some (.int .u32 (d1 : Nat)) ∧ X.cell? ⟨w.heap.size + 1, 2, none⟩ = some (.int .u32 (d2 : Nat)) ∧ X.cell? ⟨w.heap.size + 1, 3, none⟩ = some (.int .u32 (d3 : Nat))) (go_keep) (first
        | (go_at_call 54; refine (rof_dg R _ hsz).mono ?_; rintro e w3 ⟨e0, e1, e2, e3, he, rfl, hb3⟩; have hst3 := hst.drew.belowS hb3; have hdb3 := hdb.drew.belowS hb3; have s3 : w3.cell? ⟨w.heap.size, 0, none⟩ = some (.slice (some ⟨g, o, none⟩) n c) := hst3.cell 0; obtain ⟨k0, k1, k2, k3⟩ := hdb3.w4c; have hB3 := hB.drew.trans (hb3.mono hB.size); have hc3 : w3.cell? ⟨g, o + k, none⟩ = some (.string R) := (hB3.cell (p := ⟨g, o + k, none⟩) hgl).trans HC0.out; have heq := eq_dig e0 e1 e2 e3 d0 d1 d2 d3; obtain ⟨q, hq⟩ : ∃ q, q = decide ([e0, e1, e2, e3] = [d0, d1, d2, d3]) := ⟨_, rfl⟩; rw [← hq] at heq; have HQ := Lib.hid hq; clear hq))
      all_goals
        have hqe : q = decide (dg R = [d0, d1, d2, d3]) := by rw [HQ.out, he.out]
        by_cases hee : dg R = [d0, d1, d2, d3]
        · have hfi := HF.out hee
          rw [decide_eq_true hee] at hqe
          subst hqe
          have HFI := Lib.hid hfi
          clear hfi hee heq
          go_wp2_with fail
          go_ret
          exact ⟨by rw [HFI.out]; rfl, hB3⟩
        · rw [decide_eq_false hee] at hqe
          subst hqe
          have HE := Lib.hid hee
          clear hee heq
          go_wp2_with fail
          refine ⟨⟨k + 1, by omega, by go_num, ?_, hst3, hdb3, hB3⟩, by simp [intOf]; omega⟩
          intro j hj
          rcases Nat.lt_or_ge j k with h | h
          · exact HN.out j h
          · obtain rfl : j = k := by omega
            rw [← HR.out]; exact HE.out
    · obtain rfl : k = n := by omega
      have hfi := findP_no l [d0, d1, d2, d3] (fun j hj => HN.out j (by omega))
      have HFI := Lib.hid hfi
      clear hfi
      go_wp2_with fail
      go_ret
      exact ⟨by rw [HFI.out]; rfl, hB⟩
set_option maxRecDepth 100000 in
set_option maxHeartbeats 1000000 in
theorem find_any (A : Option Addr) (n c : Nat) (l : List ByteArray) (d0 d1 d2 d3 : Nat) (w : World) (hT : Turns w) (hr : Rs w A n 1 (vs l)) (hn : n ≤ 1000000) (hs : ∀ s ∈ l, s.size ≤ 1000000) :
    Calls Tryd.prog 67 #[.agg #[.slice A n c], .agg #[.int .u32 d0, .int .u32 d1, .int .u32 d2, .int .u32 d3]] w fun e w' => e = .returned (.int .i64 (findI (findP l [d0, d1, d2, d3]))) ∧ Below w.heap.size w w' := by
  have hl := hr.slen
  go_enter Tryd.func67, Tryd.ntmps67
  have hB0 : Below w.heap.size w ((w.alloc (.cells #[.slice A n c] 34)).alloc (.cells #[.int .u32 d0, .int .u32 d1, .int .u32 d2, .int .u32 d3] 39)) := ((Below.refl _ _).alloc (Nat.le_refl _) _).alloc (by simp) _
  have hdb : Bx ((w.alloc (.cells #[.slice A n c] 34)).alloc (.cells #[.int .u32 d0, .int .u32 d1, .int .u32 d2, .int .u32 d3] 39)) (w.heap.size + 1) 39 (wds [d0, d1, d2, d3]) := by
    have := Bx.new (w.alloc (.cells #[.slice A n c] 34)) 39 (wds [d0, d1, d2, d3])
    rw [World.size_alloc] at this
    exact this
  go_wp2_with fail
  refine (index_any A n c l (w.heap.size + 1) d0 d1 d2 d3 _ (hT.belowS hB0) hdb (hr.below hB0) hn hs).mono ?_
  rintro e w1 ⟨rfl, hb1⟩
  have hB1 := hB0.trans (hb1.mono hB0.size)
  go_wp2_with fail
  go_ret
  exact ⟨rfl, hB1⟩
end Go.Proofs.YtgpohndnkecbeaaDoor
namespace Go.Proofs.YtgpohndnkecbeaaDoor
open Go Go.RowKit Go.Proofs.Sc
def DigsRel (w : World) (n : Nat) (l : List ByteArray) (v i : Value) (wr : World) : Prop :=
  ∃ k : Nat, k ≤ n ∧ i = .int .i64 k ∧ wr.ownsRow w.heap.size 39 4 v k (vd (dgs (l.take k))) ∧ Below w.heap.size w wr
set_option maxRecDepth 100000 in
set_option maxHeartbeats 1000000 in
theorem digests_any (A : Option Addr) (n c : Nat) (l : List ByteArray) (w : World) (hT : Turns w) (hr : Rs w A n 1 (vs l)) (hn : n ≤ 1000000) (hs : ∀ s ∈ l, s.size ≤ 1000000) :
    Calls Tryd.prog 69 #[.agg #[.slice A n c]] w fun e w' => ∃ v, e = .returned v ∧ w'.ownsRow w.heap.size 39 4 v n (vd (dgs l)) ∧ Below w.heap.size w w' := by
  have hl := hr.slen
  go_enter Tryd.func69, Tryd.ntmps69
  have hB0 : Below w.heap.size w (w.alloc (.cells #[.slice A n c] 34)) := (Below.refl _ _).alloc (Nat.le_refl _) _
  go_wp2_with fail
  go_loopw [3, 9] (fun v i wr => DigsRel w n l v i wr) (fun _ i _ => n - (intOf i).toNat)
  case atStart => exact ⟨0, by omega, rfl, World.ownsRow_nil _ _ _ _, hB0⟩
  case round =>
    obtain ⟨k, hk, rfl, hown, hB⟩ := hrel
    clear hB0
    obtain ⟨w2, rfl⟩ : ∃ w2 : World, w2 = wr := ⟨_, rfl⟩
    by_cases hlt : k < n
    · obtain ⟨g, o, rfl, hc⟩ := (hr.below hB).str hlt
      have hsz : (gs l k).size ≤ 1000000 := hs _ (by simp [gs, show k < l.length by omega])
      have HTK : Hid (l.take (k + 1) = l.take k ++ [gs l k]) := by
        show l.take (k + 1) = _
        rw [List.take_succ_eq_append_getElem (by omega)]; simp [gs, show k < l.length by omega]
      obtain ⟨R, hR⟩ : ∃ R, R = gs l k := ⟨_, rfl⟩
      rw [← hR] at hc hsz
      have HR := Lib.hid hR
      have hd : decide (k < n) = true := by simp; omega
      clear hR
      go_wp2_with fail
      refine (of_dg R w2 (hT.belowS hB) hsz).mono ?_
      rintro e w3 ⟨d0, d1, d2, d3, hd3, rfl, hb3⟩
      have hB3 := hB.trans (hb3.mono hB.size)
      have hown3 := own_below hown hb3
      have hsz3 : w.heap.size ≤ (w3.alloc (.cells #[.int .u32 (d0 : Int), .int .u32 (d1 : Int), .int .u32 (d2 : Int), .int .u32 (d3 : Int)] 39)).heap.size := (hB3.alloc hB3.size _).size
      have hl16 : (k + 1) * 16 ≤ 140737488355328 := by omega
      go_wp2_with (first | (at_builtin; refine ap_new 42 39 _ 4 16 Tryd.underlying42 infoDig rfl (by decide) (by decide) rfl _ _ rfl w.heap.size u3 k _ rfl (hown3.alloc _) w3.heap.size 1 1 #[.int .u32 (d0 : Int), .int .u32 (d1 : Int), .int .u32 (d2 : Int), .int .u32 (d3 : Int)] rfl (Bx.new w3 39 _) rfl (dig_one d0 d1 d2 d3) hl16 hsz3 ?_; intro v4 w4 hown4 hg4 hat4))
      have hB4 := (hB3.alloc hB3.size _).grown hg4 hsz3 (own_base hown3)
      refine ⟨⟨k + 1, by omega, by go_num, ?_, hB4⟩, by simp [intOf]; omega⟩
      rw [HTK.out, dgs_app, vd_app, ← HR.out]
      have e : dgs [R] = [[d0, d1, d2, d3]] := by show [dg R] = _; rw [hd3.out]
      rw [e, vd_one]
      exact hown4
    · obtain rfl : k = n := by omega
      rw [List.take_of_length_le (by omega)] at hown
      go_wp2_with fail
      go_ret
      exact ⟨_, rfl, hown, hB⟩
def RDigsRel (w : World) (n c : Nat) (A : Option Addr) (l : List ByteArray) (v i : Value) (wr : World) : Prop :=
  ∃ k : Nat, k ≤ n ∧ i = .int .i64 k ∧ wr.ownsRow (w.heap.size + 1) 39 4 v k (vd (dgs (l.take k))) ∧ Bx wr w.heap.size 34 #[.slice A n c] ∧ Below w.heap.size w wr
set_option maxRecDepth 100000 in
set_option maxHeartbeats 1000000 in
theorem rdigests_any (A : Option Addr) (n c : Nat) (l : List ByteArray) (w : World) (hr : Rs w A n 1 (vs l)) (hn : n ≤ 1000000) (hs : ∀ s ∈ l, s.size ≤ 1000000) :
    Calls Tryd.prog 47 #[.agg #[.slice A n c]] w fun e w' => ∃ v, e = .returned v ∧ w'.ownsRow w.heap.size 39 4 v n (vd (dgs l)) ∧ Below w.heap.size w w' := by
  have hl := hr.slen
  go_enter Tryd.func47, Tryd.ntmps47
  have hB0 : Below w.heap.size w (w.alloc (.cells #[.slice A n c] 34)) := (Below.refl _ _).alloc (Nat.le_refl _) _
  have hst0 : Bx (w.alloc (.cells #[.slice A n c] 34)) w.heap.size 34 #[.slice A n c] := Bx.new w 34 _
  go_wp2_with fail
  go_loopw [3, 4] (fun v i wr => RDigsRel w n c A l v i wr) (fun _ i _ => n - (intOf i).toNat)
  case atStart => exact ⟨0, by omega, rfl, World.ownsRow_nil _ _ _ _, hst0, hB0⟩
  case round =>
    obtain ⟨k, hk, rfl, hown, hst, hB⟩ := hrel
    clear hB0 hst0
    obtain ⟨w2, rfl⟩ : ∃ w2 : World, w2 = wr := ⟨_, rfl⟩
    have s0 : w2.cell? ⟨w.heap.size, 0, none⟩ = some (.slice A n c) := hst.cell 0
    by_cases hlt : k < n
    · obtain ⟨g, o, rfl, hc⟩ := (hr.below hB).str hlt
      have hsz : (gs l k).size ≤ 1000000 := hs _ (by simp [gs, show k < l.length by omega])
      have HTK : Hid (l.take (k + 1) = l.take k ++ [gs l k]) := by
        show l.take (k + 1) = _
        rw [List.take_succ_eq_append_getElem (by omega)]; simp [gs, show k < l.length by omega]
      obtain ⟨R, hR⟩ : ∃ R, R = gs l k := ⟨_, rfl⟩
      rw [← hR] at hc hsz
      have HR := Lib.hid hR
      have hd : decide (k < n) = true := by simp; omega
      clear hR
      go_wp2_with fail
      refine (rof_dg R w2 hsz).mono ?_
      rintro e w3 ⟨d0, d1, d2, d3, hd3, rfl, hb3⟩
      have hst3 := hst.belowS hb3
      have hB3 := hB.trans (hb3.mono hB.size)
      have hown3 := own_below hown hb3
      have hsz3 : w.heap.size + 1 ≤ (w3.alloc (.cells #[.int .u32 (d0 : Int), .int .u32 (d1 : Int), .int .u32 (d2 : Int), .int .u32 (d3 : Int)] 39)).heap.size := by have := hB3.size; simp; omega
      have hl16 : (k + 1) * 16 ≤ 140737488355328 := by omega
      go_wp2_with (first | (at_builtin; refine ap_new 42 39 _ 4 16 Tryd.underlying42 infoDig rfl (by decide) (by decide) rfl _ _ rfl (w.heap.size + 1) u3 k _ rfl (hown3.alloc _) w3.heap.size 1 1 #[.int .u32 (d0 : Int), .int .u32 (d1 : Int), .int .u32 (d2 : Int), .int .u32 (d3 : Int)] rfl (Bx.new w3 39 _) rfl (dig_one d0 d1 d2 d3) hl16 hsz3 ?_; intro v4 w4 hown4 hg4 hat4))
      have hob := own_base hown3
      have hB4 := (hB3.alloc hB3.size _).grown hg4 (by omega) (fun k hk => by have := hob k hk; omega)
      have hst4 := (hst3.alloc _).grown hg4 (fun e => by have := hob _ e.symm; omega)
      refine ⟨⟨k + 1, by omega, by go_num, ?_, hst4, hB4⟩, by simp [intOf]; omega⟩
      rw [HTK.out, dgs_app, vd_app, ← HR.out]
      have e : dgs [R] = [[d0, d1, d2, d3]] := by show [dg R] = _; rw [hd3.out]
      rw [e, vd_one]
      exact hown4
    · obtain rfl : k = n := by omega
      rw [List.take_of_length_le (by omega)] at hown
      go_wp2_with fail
      go_ret
      exact ⟨_, rfl, hown.mono (by omega), hB⟩
/-- What a store's function hands back. -/
def StIs (l : List ByteArray) (w w' : World) (v : Value) : Prop :=
  ∃ (A : Option Addr) (n c : Nat), v = .agg #[.slice A n c] ∧ n ≤ c ∧ (A = none → c = 0) ∧ Rs w' A n 1 (vs l) ∧ (∀ a, A = some a → w.heap.size ≤ a.block) ∧ Below w.heap.size w w'
set_option maxRecDepth 100000 in
set_option maxHeartbeats 1000000 in
theorem with_any (A : Option Addr) (n c : Nat) (l : List ByteArray) (a : ByteArray) (w : World) (hr : Rs w A n 1 (vs l)) (hn : n ≤ 1000000) (hc : n ≤ c) (hA : A = none → c = 0) :
    Calls Tryd.prog 74 #[.agg #[.slice A n c], .string a] w fun e w' => ∃ v, e = .returned v ∧ StIs (l ++ [a]) w w' v := by
  have hl := hr.slen
  go_enter Tryd.func74, Tryd.ntmps74
  obtain ⟨i, hi, hz0, hz1, hz2⟩ := info_parts infoStr
  obtain ⟨X, hX⟩ : ∃ X, X = ((w.alloc (.cells #[.slice A n c] 34)).alloc (.cells #[.slice none 0 0] 34)).alloc (.cells #[.string a] 9) := ⟨_, rfl⟩
  have hB0 : Below w.heap.size w X := by rw [hX]; exact (((Below.refl _ _).alloc (Nat.le_refl _) _).alloc (by simp) _).alloc (by simp; omega) _
  have hrX := hr.below hB0
  have hres : Bx X (w.heap.size + 1) 34 #[.slice none 0 0] := by
    rw [hX]
    have := (Bx.new (w.alloc (.cells #[.slice A n c] 34)) 34 #[.slice none 0 0]).alloc (.cells #[.string a] 9)
    rw [World.size_alloc] at this
    exact this
  have hnew : Bx X (w.heap.size + 1 + 1) 9 #[.string a] := by
    rw [hX]
    have := Bx.new ((w.alloc (.cells #[.slice A n c] 34)).alloc (.cells #[.slice none 0 0] 34)) 9 #[.string a]
    rw [World.size_alloc, World.size_alloc] at this
    exact this
  have hnone : A = none → n = 0 ∧ n = 0 := by
    intro h
    have := hA h
    exact ⟨by omega, by omega⟩
  have holds : ∀ b, A = some b → ∀ j u, (vs l)[j]? = some u → X.cell? (b.add j) = some u := by
    intro b hb j u hu
    have hn0 : 0 < n := by
      rcases Nat.eq_zero_or_pos n with h | h
      · have hl0 : l = [] := List.eq_nil_of_length_eq_zero (by omega)
        subst hl0; simp [vs] at hu
      · exact h
    obtain ⟨g, o, e, hc⟩ := hrX.2 hn0
    rw [e] at hb; cases hb
    rw [add_at]
    exact hc j u hu
  have hnews : ∀ j u, (vs [a])[j]? = some u → X.cell? ((⟨w.heap.size + 1 + 1, 0, none⟩ : Addr).add j) = some u := by
    intro j u hu
    rw [add_at, Nat.zero_add, hnew.cell, ← hu]
    simp [vs]
  have hone : ∀ u ∈ vs [a], u.oneCell' = true := by simp [vs, Value.oneCell']
  have hl16 : (n + 1) * 16 ≤ 140737488355328 := by omega
  have hlm : n + 1 ≤ maxLen := by unfold maxLen; omega
  have hlo : (vs l).length = n * 1 := by rw [vs_len, hl, Nat.mul_one]
  go_wp2_with (first | (at_builtin; rw [← hX]; refine wpList_append_grows X rfl _ _ 22 rfl 9 i (.string ⟨#[]⟩) 1 16 Tryd.underlying22 hi hz0 hz1 hz2 rfl (by decide) A n n (vs l) rfl hnone hlo holds ⟨w.heap.size + 1 + 1, 0, none⟩ 1 1 (vs [a]) rfl rfl hnews hone (Nat.lt_succ_self _) hlm hl16 ?_; intro v1 w1 hown1 hg1; obtain ⟨g1, c1, rfl⟩ := ownsRow_succ hown1; have hb1 := (Below.refl X.heap.size X).grown hg1 (Nat.le_refl _) (fun k hk => by cases hk); have hres1 := hres.belowS hb1; have q0 : w1.cell? ⟨w.heap.size + 1, 0, none⟩ = some (.slice none 0 0) := hres1.cell 0; have f0 := hres1.frozen 0))
  have hfin : Bx (w1.setCell ⟨w.heap.size + 1, 0, none⟩ (.slice (some ⟨g1, 0, none⟩) (n + 1) c1)) (w.heap.size + 1) 34 #[.slice (some ⟨g1, 0, none⟩) (n + 1) c1] := hres1.set 0 _
  have hg1lt := hown1.lt g1 rfl
  have hcc : n + 1 ≤ c1 := by
    obtain ⟨A', c', e, h1, h2⟩ := own_slice_cap hown1
    injection e with _ _ e3
    omega
  have hszX : w.heap.size + 1 < X.heap.size := hres.lt
  have hrow := Rs.of_own (hown1.kept (grownBy_setCell' w1 (w.heap.size + 1) (.slice (some ⟨g1, 0, none⟩) (n + 1) c1)) (.inr (by simp [Value.ownBlock]; omega)))
  refine bodyPost_ret (v := .agg #[.slice (some ⟨g1, 0, none⟩) (n + 1) c1]) (results_cell_row rfl _ _ (w.heap.size + 1) 34 _ (0, 0) _ rfl hfin Tryd.underlying34 rfl (by kernel_rfl)) rfl ⟨_, rfl, _, _, _, rfl, hcc, (fun h => nomatch h), ?_, ?_, ?_⟩
  · rw [vs_app]; exact hrow
  · intro a ha; cases ha; show w.heap.size ≤ g1; omega
  · exact (hB0.trans (hb1.mono hB0.size)).setCell (by simp) _
set_option maxRecDepth 100000 in
set_option maxHeartbeats 1000000 in
theorem get_any (A : Option Addr) (n c : Nat) (l : List ByteArray) (d0 d1 d2 d3 : Nat) (w : World) (hT : Turns w) (hr : Rs w A n 1 (vs l)) (hn : n ≤ 1000000) (hs : ∀ s ∈ l, s.size ≤ 1000000) :
    Calls Tryd.prog 30 #[.agg #[.slice A n c], .agg #[.int .u32 d0, .int .u32 d1, .int .u32 d2, .int .u32 d3]] w fun e w' => e = .returned (.tuple #[.string (getP l [d0, d1, d2, d3]).1, .int .i64 (getP l [d0, d1, d2, d3]).2]) ∧ Below w.heap.size w w' := by
  have hl := hr.slen
  go_enter Tryd.func30, Tryd.ntmps30
  have hB0 : Below w.heap.size w ((w.alloc (.cells #[.slice A n c] 34)).alloc (.cells #[.int .u32 d0, .int .u32 d1, .int .u32 d2, .int .u32 d3] 39)) := ((Below.refl _ _).alloc (Nat.le_refl _) _).alloc (by simp) _
  have hst0 : Bx ((w.alloc (.cells #[.slice A n c] 34)).alloc (.cells #[.int .u32 d0, .int .u32 d1, .int .u32 d2, .int .u32 d3] 39)) w.heap.size 34 #[.slice A n c] := (Bx.new w 34 _).alloc _
  go_wp2_with fail
  refine (find_any A n c l d0 d1 d2 d3 _ (hT.belowS hB0) (hr.below hB0) hn hs).mono ?_
  rintro e w1 ⟨rfl, hb1⟩
  have hB1 := hB0.trans (hb1.mono hB0.size)
  have hst1 := hst0.belowS hb1
  have s0 : w1.cell? ⟨w.heap.size, 0, none⟩ = some (.slice A n c) := hst1.cell 0
  cases hf : findP l [d0, d1, d2, d3] with
  | none =>
    have HG : Hid (getP l [d0, d1, d2, d3] = (ByteArray.empty, 6)) := by show getP _ _ = _; rw [getP, hf]
    simp only [findI]
    clear hf hst0 hB0
    go_wp2_with fail
    go_ret2
    exact ⟨by rw [HG.out]; rfl, hB1⟩
  | some i =>
    have HG : Hid (getP l [d0, d1, d2, d3] = (gs l i, 0)) := by show getP _ _ = _; rw [getP, hf]
    have hi := (findP_some hf).1
    simp only [findI]
    obtain ⟨g, o, rfl, hc⟩ := (hr.below hB1).str (k := i) (by omega)
    obtain ⟨R, hR⟩ : ∃ R, R = gs l i := ⟨_, rfl⟩
    rw [← hR] at hc HG
    have hin : (i : Int) < (n : Int) := by omega
    clear hf hst0 hB0 hR
    go_wp2_with fail
    go_ret2
    exact ⟨by rw [HG.out]; rfl, hB1⟩
set_option maxRecDepth 100000 in
set_option maxHeartbeats 1000000 in
theorem rget_any (A : Option Addr) (n c : Nat) (l : List ByteArray) (d0 d1 d2 d3 : Nat) (w : World) (hr : Rs w A n 1 (vs l)) (hn : n ≤ 1000000) (hs : ∀ s ∈ l, s.size ≤ 1000000) :
    Calls Tryd.prog 43 #[.agg #[.slice A n c], .agg #[.int .u32 d0, .int .u32 d1, .int .u32 d2, .int .u32 d3]] w fun e w' => e = .returned (.tuple #[.string (getP l [d0, d1, d2, d3]).1, .int .i64 (getP l [d0, d1, d2, d3]).2]) ∧ Below w.heap.size w w' := by
  have hl := hr.slen
  go_enter Tryd.func43, Tryd.ntmps43
  have hB0 : Below w.heap.size w ((w.alloc (.cells #[.slice A n c] 34)).alloc (.cells #[.int .u32 d0, .int .u32 d1, .int .u32 d2, .int .u32 d3] 39)) := ((Below.refl _ _).alloc (Nat.le_refl _) _).alloc (by simp) _
  have hst0 : Bx ((w.alloc (.cells #[.slice A n c] 34)).alloc (.cells #[.int .u32 d0, .int .u32 d1, .int .u32 d2, .int .u32 d3] 39)) w.heap.size 34 #[.slice A n c] := (Bx.new w 34 _).alloc _
  go_wp2_with fail
  refine (rfind_any A n c l d0 d1 d2 d3 _ (hr.below hB0) hn hs).mono ?_
  rintro e w1 ⟨rfl, hb1⟩
  have hB1 := hB0.trans (hb1.mono hB0.size)
  have hst1 := hst0.belowS hb1
  have s0 : w1.cell? ⟨w.heap.size, 0, none⟩ = some (.slice A n c) := hst1.cell 0
  cases hf : findP l [d0, d1, d2, d3] with
  | none =>
    have HG : Hid (getP l [d0, d1, d2, d3] = (ByteArray.empty, 6)) := by show getP _ _ = _; rw [getP, hf]
    simp only [findI]
    clear hf hst0 hB0
    go_wp2_with fail
    go_ret2
    exact ⟨by rw [HG.out]; rfl, hB1⟩
  | some i =>
    have HG : Hid (getP l [d0, d1, d2, d3] = (gs l i, 0)) := by show getP _ _ = _; rw [getP, hf]
    have hi := (findP_some hf).1
    simp only [findI]
    obtain ⟨g, o, rfl, hc⟩ := (hr.below hB1).str (k := i) (by omega)
    obtain ⟨R, hR⟩ : ∃ R, R = gs l i := ⟨_, rfl⟩
    rw [← hR] at hc HG
    have hin : (i : Int) < (n : Int) := by omega
    clear hf hst0 hB0 hR
    go_wp2_with fail
    go_ret2
    exact ⟨by rw [HG.out]; rfl, hB1⟩
end Go.Proofs.YtgpohndnkecbeaaDoor
namespace Go.Proofs.YtgpohndnkecbeaaDoor
open Go Go.RowKit Go.Proofs.Sc
theorem two_alloc (w : World) (C D : Array Value) (t u : TypeId) :
    Bx ((w.alloc (.cells C t)).alloc (.cells D u)) w.heap.size t C ∧ Bx ((w.alloc (.cells C t)).alloc (.cells D u)) (w.heap.size + 1) u D ∧ Below w.heap.size w ((w.alloc (.cells C t)).alloc (.cells D u)) := by
  refine ⟨(Bx.new w t C).alloc _, ?_, ((Below.refl _ _).alloc (Nat.le_refl _) _).alloc (by simp) _⟩
  have := Bx.new (w.alloc (.cells C t)) u D
  rw [World.size_alloc] at this
  exact this
/-- What owns digests is a slice of digests. -/
theorem ds_own {w : World} {B n : Nat} {v : Value} {l : Dl} (h : w.ownsRow B 39 4 v n (vd l)) (hw : Wl l) (hl : l.length = n) : ∃ A c, v = .slice A n c ∧ DS w A n c l := by
  obtain ⟨A, c, rfl, h1, h2⟩ := own_slice_cap h
  exact ⟨A, c, rfl, Rs.of_own h, hw, hl, h1, h2⟩
set_option maxRecDepth 100000 in
set_option maxHeartbeats 1000000 in
theorem root_any (A : Option Addr) (n c : Nat) (l : List ByteArray) (w : World) (hT : Turns w) (hr : Rs w A n 1 (vs l)) (hn : n ≤ 1000000) (hs : ∀ s ∈ l, s.size ≤ 1000000) :
    Calls Tryd.prog 49 #[.agg #[.slice A n c]] w fun e w' => RootIs (dgs l) w e w' := by
  have hl := hr.slen
  go_enter Tryd.func49, Tryd.ntmps49
  obtain ⟨-, hr0, hB0⟩ := two_alloc w #[.slice A n c] (wds [0, 0, 0, 0]) 34 39
  go_wp2_with fail
  refine (digests_any A n c l _ (hT.belowS hB0) (hr.below hB0) hn hs).mono ?_
  rintro e w1 ⟨v, rfl, hown, hb1⟩
  have hB1 := hB0.trans (hb1.mono hB0.size)
  have hr1 := hr0.belowS hb1
  obtain ⟨A2, c2, rfl, hds⟩ := ds_own hown (dgs_wl l) (by rw [dgs_len]; exact hl)
  clear hr0 hown
  go_wp2_with fail
  refine (mroot_any n (dgs l) A2 n c2 _ (Nat.le_refl _) hn hds (hT.belowS hB1)).mono ?_
  rintro e w2 ⟨d0, d1, d2, d3, hd, rfl, hb2⟩
  have hB2 := hB1.trans (hb2.mono hB1.size)
  have hr2 := hr1.belowS hb2
  obtain ⟨q0, q1, q2, q3⟩ := hr2.w4c
  obtain ⟨f0, f1, f2, f3⟩ := hr2.w4f
  go_wp2_with fail
  have hfin := hr2.set4 d0 d1 d2 d3
  refine bodyPost_ret (v := .agg (wds [d0, d1, d2, d3])) (results_cell_row rfl _ _ (w.heap.size + 1) 39 _ (0, 0) _ rfl hfin Tryd.underlying39 rfl (by kernel_rfl)) rfl ⟨d0, d1, d2, d3, hd, rfl, below_set4 hB2 (Nat.le_add_right _ _) _ _ _ _⟩
set_option maxRecDepth 100000 in
set_option maxHeartbeats 1000000 in
theorem rsroot_any (A : Option Addr) (n c : Nat) (l : List ByteArray) (w : World) (hr : Rs w A n 1 (vs l)) (hn : n ≤ 1000000) (hs : ∀ s ∈ l, s.size ≤ 1000000) :
    Calls Tryd.prog 52 #[.agg #[.slice A n c]] w fun e w' => RootIs (dgs l) w e w' := by
  have hl := hr.slen
  go_enter Tryd.func52, Tryd.ntmps52
  obtain ⟨-, hr0, hB0⟩ := two_alloc w #[.slice A n c] (wds [0, 0, 0, 0]) 34 39
  go_wp2_with fail
  refine (rdigests_any A n c l _ (hr.below hB0) hn hs).mono ?_
  rintro e w1 ⟨v, rfl, hown, hb1⟩
  have hB1 := hB0.trans (hb1.mono hB0.size)
  have hr1 := hr0.belowS hb1
  obtain ⟨A2, c2, rfl, hds⟩ := ds_own hown (dgs_wl l) (by rw [dgs_len]; exact hl)
  clear hr0 hown
  go_wp2_with fail
  refine (rroot_any n (dgs l) A2 n c2 _ (Nat.le_refl _) hn hds).mono ?_
  rintro e w2 ⟨d0, d1, d2, d3, hd, rfl, hb2⟩
  have hB2 := hB1.trans (hb2.mono hB1.size)
  have hr2 := hr1.belowS hb2
  obtain ⟨q0, q1, q2, q3⟩ := hr2.w4c
  obtain ⟨f0, f1, f2, f3⟩ := hr2.w4f
  go_wp2_with fail
  have hfin := hr2.set4 d0 d1 d2 d3
  refine bodyPost_ret (v := .agg (wds [d0, d1, d2, d3])) (results_cell_row rfl _ _ (w.heap.size + 1) 39 _ (0, 0) _ rfl hfin Tryd.underlying39 rfl (by kernel_rfl)) rfl ⟨d0, d1, d2, d3, hd, rfl, below_set4 hB2 (Nat.le_add_right _ _) _ _ _ _⟩
def HeadIs (n : Nat) (l : Dl) (w : World) (e : Ending) (w' : World) : Prop :=
  ∃ d0 d1 d2 d3 : Nat, Hid (root l = [d0, d1, d2, d3]) ∧ e = .returned (.agg #[.int .i64 n, .int .u32 d0, .int .u32 d1, .int .u32 d2, .int .u32 d3]) ∧ Below w.heap.size w w'
set_option maxRecDepth 100000 in
set_option maxHeartbeats 1000000 in
theorem head_any (A : Option Addr) (n c : Nat) (l : List ByteArray) (w : World) (hT : Turns w) (hr : Rs w A n 1 (vs l)) (hn : n ≤ 1000000) (hs : ∀ s ∈ l, s.size ≤ 1000000) :
    Calls Tryd.prog 32 #[.agg #[.slice A n c]] w fun e w' => HeadIs n (dgs l) w e w' := by
  have hl := hr.slen
  go_enter Tryd.func32, Tryd.ntmps32
  obtain ⟨hs0, hr0, hB0⟩ := two_alloc w #[.slice A n c] #[.int .i64 0, .int .u32 0, .int .u32 0, .int .u32 0, .int .u32 0] 34 46
  go_wp2_with fail
  generalize ((w.alloc (.cells #[.slice A n c] 34)).alloc (.cells #[.int .i64 0, .int .u32 0, .int .u32 0, .int .u32 0, .int .u32 0] 46)) = W at hs0 hr0 hB0 ⊢
  have hrW := hr.below hB0
  have hTW : Turns W := hT.belowS hB0
  have s0 : W.cell? ⟨w.heap.size, 0, none⟩ = some (.slice A n c) := hs0.cell 0
  have k0 : W.cell? ⟨w.heap.size + 1, 0, none⟩ = some (.int .i64 0) := hr0.cell 0
  go_region_held3 (fun X : World => X.cell? ⟨w.heap.size, 0, none⟩ = some (.slice A n c)) (go_keep) (first
    | (go_at_call 49; refine (root_any A n c l _ ?_ ?_ hn hs).mono ?_; exact hTW; exact hrW; rintro e w1 ⟨d0, d1, d2, d3, hd, rfl, hb1⟩; have hs1 := hs0.drew.belowS hb1; have s1 : w1.cell? ⟨w.heap.size, 0, none⟩ = some (.slice A n c) := hs1.cell 0; have hr1 := hr0.drew.belowS hb1; have hB1 := hB0.drew.trans (hb1.mono hB0.size); have q0 : w1.cell? ⟨w.heap.size + 1, 0, none⟩ = some (.int .i64 0) := hr1.cell 0; have q1 : w1.cell? ⟨w.heap.size + 1, 1, none⟩ = some (.int .u32 0) := hr1.cell 1; have q2 : w1.cell? ⟨w.heap.size + 1, 2, none⟩ = some (.int .u32 0) := hr1.cell 2; have q3 : w1.cell? ⟨w.heap.size + 1, 3, none⟩ = some (.int .u32 0) := hr1.cell 3; have q4 : w1.cell? ⟨w.heap.size + 1, 4, none⟩ = some (.int .u32 0) := hr1.cell 4; have f0 := hr1.frozen 0; have f1 := hr1.frozen 1; have f2 := hr1.frozen 2; have f3 := hr1.frozen 3; have f4 := hr1.frozen 4))
  all_goals
    go_wp2_with fail
    have hfin := ((((hr1.set 0 (.int .i64 (n : Int))).set 1 (.int .u32 (d0 : Int))).set 2 (.int .u32 (d1 : Int))).set 3 (.int .u32 (d2 : Int))).set 4 (.int .u32 (d3 : Int))
    have hx : ∀ j, w.heap.size ≤ (⟨w.heap.size + 1, j, none⟩ : Addr).block := fun j => by simp
    refine bodyPost_ret (v := .agg #[.int .i64 (n : Int), .int .u32 (d0 : Int), .int .u32 (d1 : Int), .int .u32 (d2 : Int), .int .u32 (d3 : Int)]) (results_cell_row rfl _ _ (w.heap.size + 1) 46 _ (0, 0) _ rfl hfin Tryd.underlying46 rfl (by kernel_rfl)) rfl ⟨d0, d1, d2, d3, hd, rfl, ?_⟩
    exact ((((hB1.setCell (hx 0) _).setCell (hx 1) _).setCell (hx 2) _).setCell (hx 3) _).setCell (hx 4) _
set_option maxRecDepth 100000 in
set_option maxHeartbeats 1000000 in
theorem rhead_any (A : Option Addr) (n c : Nat) (l : List ByteArray) (w : World) (hr : Rs w A n 1 (vs l)) (hn : n ≤ 1000000) (hs : ∀ s ∈ l, s.size ≤ 1000000) :
    Calls Tryd.prog 53 #[.agg #[.slice A n c]] w fun e w' => HeadIs n (dgs l) w e w' := by
  have hl := hr.slen
  go_enter Tryd.func53, Tryd.ntmps53
  obtain ⟨hs0, hr0, hB0⟩ := two_alloc w #[.slice A n c] #[.int .i64 0, .int .u32 0, .int .u32 0, .int .u32 0, .int .u32 0] 34 46
  go_wp2_with fail
  generalize ((w.alloc (.cells #[.slice A n c] 34)).alloc (.cells #[.int .i64 0, .int .u32 0, .int .u32 0, .int .u32 0, .int .u32 0] 46)) = W at hs0 hr0 hB0 ⊢
  have hrW := hr.below hB0
  have s0 : W.cell? ⟨w.heap.size, 0, none⟩ = some (.slice A n c) := hs0.cell 0
  have k0 : W.cell? ⟨w.heap.size + 1, 0, none⟩ = some (.int .i64 0) := hr0.cell 0
  go_region_held3 (fun X : World => X.cell? ⟨w.heap.size, 0, none⟩ = some (.slice A n c)) (go_keep) (first
    | (go_at_call 52; refine (rsroot_any A n c l _ ?_ hn hs).mono ?_; exact hrW; rintro e w1 ⟨d0, d1, d2, d3, hd, rfl, hb1⟩; have hs1 := hs0.drew.belowS hb1; have s1 : w1.cell? ⟨w.heap.size, 0, none⟩ = some (.slice A n c) := hs1.cell 0; have hr1 := hr0.drew.belowS hb1; have hB1 := hB0.drew.trans (hb1.mono hB0.size); have q0 : w1.cell? ⟨w.heap.size + 1, 0, none⟩ = some (.int .i64 0) := hr1.cell 0; have q1 : w1.cell? ⟨w.heap.size + 1, 1, none⟩ = some (.int .u32 0) := hr1.cell 1; have q2 : w1.cell? ⟨w.heap.size + 1, 2, none⟩ = some (.int .u32 0) := hr1.cell 2; have q3 : w1.cell? ⟨w.heap.size + 1, 3, none⟩ = some (.int .u32 0) := hr1.cell 3; have q4 : w1.cell? ⟨w.heap.size + 1, 4, none⟩ = some (.int .u32 0) := hr1.cell 4; have f0 := hr1.frozen 0; have f1 := hr1.frozen 1; have f2 := hr1.frozen 2; have f3 := hr1.frozen 3; have f4 := hr1.frozen 4))
  all_goals
    go_wp2_with fail
    have hfin := ((((hr1.set 0 (.int .i64 (n : Int))).set 1 (.int .u32 (d0 : Int))).set 2 (.int .u32 (d1 : Int))).set 3 (.int .u32 (d2 : Int))).set 4 (.int .u32 (d3 : Int))
    have hx : ∀ j, w.heap.size ≤ (⟨w.heap.size + 1, j, none⟩ : Addr).block := fun j => by simp
    refine bodyPost_ret (v := .agg #[.int .i64 (n : Int), .int .u32 (d0 : Int), .int .u32 (d1 : Int), .int .u32 (d2 : Int), .int .u32 (d3 : Int)]) (results_cell_row rfl _ _ (w.heap.size + 1) 46 _ (0, 0) _ rfl hfin Tryd.underlying46 rfl (by kernel_rfl)) rfl ⟨d0, d1, d2, d3, hd, rfl, ?_⟩
    exact ((((hB1.setCell (hx 0) _).setCell (hx 1) _).setCell (hx 2) _).setCell (hx 3) _).setCell (hx 4) _
/-- A proof of what has a digest: the number, the proof, the error. -/
def proveP (l : List ByteArray) (d : List Nat) : Nat × Dl × Nat :=
  match findP l d with
  | some i => (i, way (dgs l) i, 0)
  | none => (0, [], 6)
def ProveIs (l : List ByteArray) (d : List Nat) (w : World) (e : Ending) (w' : World) : Prop :=
  ∃ v, e = .returned (.tuple #[.int .i64 (proveP l d).1, v, .int .i64 (proveP l d).2.2]) ∧ w'.ownsRow w.heap.size 39 4 v (proveP l d).2.1.length (vd (proveP l d).2.1) ∧ Below w.heap.size w w'
set_option maxRecDepth 100000 in
set_option maxHeartbeats 1000000 in
theorem sprove_any (A : Option Addr) (n c : Nat) (l : List ByteArray) (d0 d1 d2 d3 : Nat) (w : World) (hT : Turns w) (hr : Rs w A n 1 (vs l)) (hn : n ≤ 1000000) (hs : ∀ s ∈ l, s.size ≤ 1000000) :
    Calls Tryd.prog 31 #[.agg #[.slice A n c], .agg #[.int .u32 d0, .int .u32 d1, .int .u32 d2, .int .u32 d3]] w fun e w' => ProveIs l [d0, d1, d2, d3] w e w' := by
  have hl := hr.slen
  go_enter Tryd.func31, Tryd.ntmps31
  obtain ⟨hs0, -, hB0⟩ := two_alloc w #[.slice A n c] (wds [d0, d1, d2, d3]) 34 39
  go_wp2_with fail
  refine (find_any A n c l d0 d1 d2 d3 _ (hT.belowS hB0) (hr.below hB0) hn hs).mono ?_
  rintro e w1 ⟨rfl, hb1⟩
  have hB1 := hB0.trans (hb1.mono hB0.size)
  have hs1 := hs0.belowS hb1
  have s1 : w1.cell? ⟨w.heap.size, 0, none⟩ = some (.slice A n c) := hs1.cell 0
  cases hf : findP l [d0, d1, d2, d3] with
  | none =>
    have HG : Hid (proveP l [d0, d1, d2, d3] = (0, [], 6)) := by show proveP _ _ = _; rw [proveP, hf]
    simp only [findI]
    clear hf hs0 hB0
    go_wp2_with fail
    go_ret3
    exact ⟨.slice none 0 0, by rw [HG.out]; rfl, by rw [HG.out]; exact World.ownsRow_nil _ _ _ _, hB1⟩
  | some i =>
    have HG : Hid (proveP l [d0, d1, d2, d3] = (i, way (dgs l) i, 0)) := by show proveP _ _ = _; rw [proveP, hf]
    have hi := (findP_some hf).1
    simp only [findI]
    have hrA := hr.below hB1
    clear hf hs0 hB0
    go_wp2_with fail
    refine (digests_any A n c l w1 (hT.belowS hB1) hrA hn hs).mono ?_
    rintro e w2 ⟨v, rfl, hown, hb2⟩
    have hB2 := hB1.trans (hb2.mono hB1.size)
    obtain ⟨A2, c2, rfl, hds⟩ := ds_own hown (dgs_wl l) (by rw [dgs_len]; exact hl)
    clear hown
    go_wp2_with fail
    refine (mprove_any (dgs l) A2 n c2 i w2 hn (by omega) hds (hT.belowS hB2)).mono ?_
    rintro e w3 ⟨v, rfl, hown, hb3⟩
    have hB3 := hB2.trans (hb3.mono hB2.size)
    go_wp2_with fail
    go_ret3
    exact ⟨v, by rw [HG.out]; rfl, by rw [HG.out]; exact hown.mono hB2.size, hB3⟩
set_option maxRecDepth 100000 in
set_option maxHeartbeats 1000000 in
theorem rsprove_any (A : Option Addr) (n c : Nat) (l : List ByteArray) (d0 d1 d2 d3 : Nat) (w : World) (hr : Rs w A n 1 (vs l)) (hn : n ≤ 1000000) (hs : ∀ s ∈ l, s.size ≤ 1000000) :
    Calls Tryd.prog 51 #[.agg #[.slice A n c], .agg #[.int .u32 d0, .int .u32 d1, .int .u32 d2, .int .u32 d3]] w fun e w' => ProveIs l [d0, d1, d2, d3] w e w' := by
  have hl := hr.slen
  go_enter Tryd.func51, Tryd.ntmps51
  obtain ⟨hs0, -, hB0⟩ := two_alloc w #[.slice A n c] (wds [d0, d1, d2, d3]) 34 39
  go_wp2_with fail
  refine (rfind_any A n c l d0 d1 d2 d3 _ (hr.below hB0) hn hs).mono ?_
  rintro e w1 ⟨rfl, hb1⟩
  have hB1 := hB0.trans (hb1.mono hB0.size)
  have hs1 := hs0.belowS hb1
  have s1 : w1.cell? ⟨w.heap.size, 0, none⟩ = some (.slice A n c) := hs1.cell 0
  cases hf : findP l [d0, d1, d2, d3] with
  | none =>
    have HG : Hid (proveP l [d0, d1, d2, d3] = (0, [], 6)) := by show proveP _ _ = _; rw [proveP, hf]
    simp only [findI]
    clear hf hs0 hB0
    go_wp2_with fail
    go_ret3
    exact ⟨.slice none 0 0, by rw [HG.out]; rfl, by rw [HG.out]; exact World.ownsRow_nil _ _ _ _, hB1⟩
  | some i =>
    have HG : Hid (proveP l [d0, d1, d2, d3] = (i, way (dgs l) i, 0)) := by show proveP _ _ = _; rw [proveP, hf]
    have hi := (findP_some hf).1
    simp only [findI]
    have hrA := hr.below hB1
    clear hf hs0 hB0
    go_wp2_with fail
    refine (rdigests_any A n c l w1 hrA hn hs).mono ?_
    rintro e w2 ⟨v, rfl, hown, hb2⟩
    have hB2 := hB1.trans (hb2.mono hB1.size)
    obtain ⟨A2, c2, rfl, hds⟩ := ds_own hown (dgs_wl l) (by rw [dgs_len]; exact hl)
    clear hown
    go_wp2_with fail
    refine (rprove_any (dgs l) A2 n c2 i w2 hn (by omega) hds).mono ?_
    rintro e w3 ⟨v, rfl, hown, hb3⟩
    have hB3 := hB2.trans (hb3.mono hB2.size)
    go_wp2_with fail
    go_ret3
    exact ⟨v, by rw [HG.out]; rfl, by rw [HG.out]; exact hown.mono hB2.size, hB3⟩
end Go.Proofs.YtgpohndnkecbeaaDoor
