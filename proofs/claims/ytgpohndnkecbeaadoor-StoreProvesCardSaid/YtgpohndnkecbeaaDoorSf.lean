/- Contracts: store.digests, ref42.Digests. -/
import Derived.Test.YtgpohndnkecbeaaDoorSe
import Derived.Deep.RegionLaw
import Derived.Deep.Onto
import Derived.RangeFuncBox
namespace Go.Proofs.YtgpohndnkecbeaaDoor
open Go Go.RowKit Go.Proofs.Sc
def DigsRel (w : World) (n : Nat) (l : List ByteArray) (v i : Value) (wr : World) : Prop :=
  ∃ k : Nat, k ≤ n ∧ i = .int .i64 k ∧ wr.ownsRow w.heap.size 39 4 v k (vd (dgs (l.take k))) ∧ Below w.heap.size w wr
set_option maxRecDepth 100000 in
set_option maxHeartbeats 1000000 in
theorem digests_any (A : Option Addr) (n c : Nat) (l : List ByteArray) (w : World) (hT : Turns w) (hr : Rs w A n 1 (vs l)) (hn : n ≤ 1000000) (hs : ∀ s ∈ l, s.size ≤ 1000000) :
    Calls Tryd.prog 69 #[.agg #[.slice A n c]] w fun e w' => ∃ v, e = .returned v ∧ w'.ownsRow w.heap.size 39 4 v n (vd (dgs l)) ∧ Below w.heap.size w w' := by
  have hl := hr.slen
  go_enter Tryd.func69, Tryd.ntmps69
  have hB0 : Below w.heap.size w (w.alloc (.cells #[.slice A n c] 34)) := (Below.refl _ _).alloc (Nat.le_refl _) _
  go_wp2_with fail
  go_loopw [3, 9] (fun v i wr => DigsRel w n l v i wr) (fun _ i _ => n - (intOf i).toNat)
  case atStart => exact ⟨0, by omega, rfl, World.ownsRow_nil _ _ _ _, hB0⟩
  case round =>
    obtain ⟨k, hk, rfl, hown, hB⟩ := hrel
    clear hB0
    obtain ⟨w2, rfl⟩ : ∃ w2 : World, w2 = wr := ⟨_, rfl⟩
    by_cases hlt : k < n
    · obtain ⟨g, o, rfl, hc⟩ := (hr.below hB).str hlt
      have hsz : (gs l k).size ≤ 1000000 := hs _ (by simp [gs, show k < l.length by omega])
      have HTK : Hid (l.take (k + 1) = l.take k ++ [gs l k]) := by
        show l.take (k + 1) = _
        rw [List.take_succ_eq_append_getElem (by omega)]; simp [gs, show k < l.length by omega]
      obtain ⟨R, hR⟩ : ∃ R, R = gs l k := ⟨_, rfl⟩
      rw [← hR] at hc hsz
      have HR := Lib.hid hR
      have hd : decide (k < n) = true := by simp; omega
      clear hR
      go_wp2_with fail
      refine (of_dg R w2 (hT.belowS hB) hsz).mono ?_
      rintro e w3 ⟨d0, d1, d2, d3, hd3, rfl, hb3⟩
      have hB3 := hB.trans (hb3.mono hB.size)
      have hown3 := own_below hown hb3
      have hsz3 : w.heap.size ≤ (w3.alloc (.cells #[.int .u32 (d0 : Int), .int .u32 (d1 : Int), .int .u32 (d2 : Int), .int .u32 (d3 : Int)] 39)).heap.size := (hB3.alloc hB3.size _).size
      have hl16 : (k + 1) * 16 ≤ 140737488355328 := by omega
      go_wp2_with (first | (at_builtin; refine ap_new 42 39 _ 4 16 Tryd.underlying42 infoDig rfl (by decide) (by decide) rfl _ _ rfl w.heap.size u3 k _ rfl (hown3.alloc _) w3.heap.size 1 1 #[.int .u32 (d0 : Int), .int .u32 (d1 : Int), .int .u32 (d2 : Int), .int .u32 (d3 : Int)] rfl (Bx.new w3 39 _) rfl (dig_one d0 d1 d2 d3) hl16 hsz3 ?_; intro v4 w4 hown4 hg4 hat4))
      have hB4 := (hB3.alloc hB3.size _).grown hg4 hsz3 (own_base hown3)
      refine ⟨⟨k + 1, by omega, by go_num, ?_, hB4⟩, by simp [intOf]; omega⟩
      rw [HTK.out, dgs_app, vd_app, ← HR.out]
      have e : dgs [R] = [[d0, d1, d2, d3]] := by show [dg R] = _; rw [hd3.out]
      rw [e, vd_one]
      exact hown4
    · obtain rfl : k = n := by omega
      rw [List.take_of_length_le (by omega)] at hown
      go_wp2_with fail
      go_ret
      exact ⟨_, rfl, hown, hB⟩
def RDigsRel (w : World) (n c : Nat) (A : Option Addr) (l : List ByteArray) (v i : Value) (wr : World) : Prop :=
  ∃ k : Nat, k ≤ n ∧ i = .int .i64 k ∧ wr.ownsRow (w.heap.size + 1) 39 4 v k (vd (dgs (l.take k))) ∧ Bx wr w.heap.size 34 #[.slice A n c] ∧ Below w.heap.size w wr
set_option maxRecDepth 100000 in
set_option maxHeartbeats 1000000 in
theorem rdigests_any (A : Option Addr) (n c : Nat) (l : List ByteArray) (w : World) (hr : Rs w A n 1 (vs l)) (hn : n ≤ 1000000) (hs : ∀ s ∈ l, s.size ≤ 1000000) :
    Calls Tryd.prog 47 #[.agg #[.slice A n c]] w fun e w' => ∃ v, e = .returned v ∧ w'.ownsRow w.heap.size 39 4 v n (vd (dgs l)) ∧ Below w.heap.size w w' := by
  have hl := hr.slen
  go_enter Tryd.func47, Tryd.ntmps47
  have hB0 : Below w.heap.size w (w.alloc (.cells #[.slice A n c] 34)) := (Below.refl _ _).alloc (Nat.le_refl _) _
  have hst0 : Bx (w.alloc (.cells #[.slice A n c] 34)) w.heap.size 34 #[.slice A n c] := Bx.new w 34 _
  go_wp2_with fail
  go_loopw [3, 4] (fun v i wr => RDigsRel w n c A l v i wr) (fun _ i _ => n - (intOf i).toNat)
  case atStart => exact ⟨0, by omega, rfl, World.ownsRow_nil _ _ _ _, hst0, hB0⟩
  case round =>
    obtain ⟨k, hk, rfl, hown, hst, hB⟩ := hrel
    clear hB0 hst0
    obtain ⟨w2, rfl⟩ : ∃ w2 : World, w2 = wr := ⟨_, rfl⟩
    have s0 : w2.cell? ⟨w.heap.size, 0, none⟩ = some (.slice A n c) := hst.cell 0
    by_cases hlt : k < n
    · obtain ⟨g, o, rfl, hc⟩ := (hr.below hB).str hlt
      have hsz : (gs l k).size ≤ 1000000 := hs _ (by simp [gs, show k < l.length by omega])
      have HTK : Hid (l.take (k + 1) = l.take k ++ [gs l k]) := by
        show l.take (k + 1) = _
        rw [List.take_succ_eq_append_getElem (by omega)]; simp [gs, show k < l.length by omega]
      obtain ⟨R, hR⟩ : ∃ R, R = gs l k := ⟨_, rfl⟩
      rw [← hR] at hc hsz
      have HR := Lib.hid hR
      have hd : decide (k < n) = true := by simp; omega
      clear hR
      go_wp2_with fail
      refine (rof_dg R w2 hsz).mono ?_
      rintro e w3 ⟨d0, d1, d2, d3, hd3, rfl, hb3⟩
      have hst3 := hst.belowS hb3
      have hB3 := hB.trans (hb3.mono hB.size)
      have hown3 := own_below hown hb3
      have hsz3 : w.heap.size + 1 ≤ (w3.alloc (.cells #[.int .u32 (d0 : Int), .int .u32 (d1 : Int), .int .u32 (d2 : Int), .int .u32 (d3 : Int)] 39)).heap.size := by have := hB3.size; simp; omega
      have hl16 : (k + 1) * 16 ≤ 140737488355328 := by omega
      go_wp2_with (first | (at_builtin; refine ap_new 42 39 _ 4 16 Tryd.underlying42 infoDig rfl (by decide) (by decide) rfl _ _ rfl (w.heap.size + 1) u3 k _ rfl (hown3.alloc _) w3.heap.size 1 1 #[.int .u32 (d0 : Int), .int .u32 (d1 : Int), .int .u32 (d2 : Int), .int .u32 (d3 : Int)] rfl (Bx.new w3 39 _) rfl (dig_one d0 d1 d2 d3) hl16 hsz3 ?_; intro v4 w4 hown4 hg4 hat4))
      have hob := own_base hown3
      have hB4 := (hB3.alloc hB3.size _).grown hg4 (by omega) (fun k hk => by have := hob k hk; omega)
      have hst4 := (hst3.alloc _).grown hg4 (fun e => by have := hob _ e.symm; omega)
      refine ⟨⟨k + 1, by omega, by go_num, ?_, hst4, hB4⟩, by simp [intOf]; omega⟩
      rw [HTK.out, dgs_app, vd_app, ← HR.out]
      have e : dgs [R] = [[d0, d1, d2, d3]] := by show [dg R] = _; rw [hd3.out]
      rw [e, vd_one]
      exact hown4
    · obtain rfl : k = n := by omega
      rw [List.take_of_length_le (by omega)] at hown
      go_wp2_with fail
      go_ret
      exact ⟨_, rfl, hown.mono (by omega), hB⟩
/-- What a store's function hands back. -/
def StIs (l : List ByteArray) (w w' : World) (v : Value) : Prop :=
  ∃ (A : Option Addr) (n c : Nat), v = .agg #[.slice A n c] ∧ n ≤ c ∧ (A = none → c = 0) ∧ Rs w' A n 1 (vs l) ∧ (∀ a, A = some a → w.heap.size ≤ a.block) ∧ Below w.heap.size w w'
set_option maxRecDepth 100000 in
set_option maxHeartbeats 1000000 in
theorem with_any (A : Option Addr) (n c : Nat) (l : List ByteArray) (a : ByteArray) (w : World) (hr : Rs w A n 1 (vs l)) (hn : n ≤ 1000000) (hc : n ≤ c) (hA : A = none → c = 0) :
    Calls Tryd.prog 74 #[.agg #[.slice A n c], .string a] w fun e w' => ∃ v, e = .returned v ∧ StIs (l ++ [a]) w w' v := by
  have hl := hr.slen
  go_enter Tryd.func74, Tryd.ntmps74
  obtain ⟨i, hi, hz0, hz1, hz2⟩ := info_parts infoStr
  obtain ⟨X, hX⟩ : ∃ X, X = ((w.alloc (.cells #[.slice A n c] 34)).alloc (.cells #[.slice none 0 0] 34)).alloc (.cells #[.string a] 9) := ⟨_, rfl⟩
  have hB0 : Below w.heap.size w X := by rw [hX]; exact (((Below.refl _ _).alloc (Nat.le_refl _) _).alloc (by simp) _).alloc (by simp; omega) _
  have hrX := hr.below hB0
  have hres : Bx X (w.heap.size + 1) 34 #[.slice none 0 0] := by
    rw [hX]
    have := (Bx.new (w.alloc (.cells #[.slice A n c] 34)) 34 #[.slice none 0 0]).alloc (.cells #[.string a] 9)
    rw [World.size_alloc] at this
    exact this
  have hnew : Bx X (w.heap.size + 1 + 1) 9 #[.string a] := by
    rw [hX]
    have := Bx.new ((w.alloc (.cells #[.slice A n c] 34)).alloc (.cells #[.slice none 0 0] 34)) 9 #[.string a]
    rw [World.size_alloc, World.size_alloc] at this
    exact this
  have hnone : A = none → n = 0 ∧ n = 0 := by
    intro h
    have := hA h
    exact ⟨by omega, by omega⟩
  have holds : ∀ b, A = some b → ∀ j u, (vs l)[j]? = some u → X.cell? (b.add j) = some u := by
    intro b hb j u hu
    have hn0 : 0 < n := by
      rcases Nat.eq_zero_or_pos n with h | h
      · have hl0 : l = [] := List.eq_nil_of_length_eq_zero (by omega)
        subst hl0; simp [vs] at hu
      · exact h
    obtain ⟨g, o, e, hc⟩ := hrX.2 hn0
    rw [e] at hb; cases hb
    rw [add_at]
    exact hc j u hu
  have hnews : ∀ j u, (vs [a])[j]? = some u → X.cell? ((⟨w.heap.size + 1 + 1, 0, none⟩ : Addr).add j) = some u := by
    intro j u hu
    rw [add_at, Nat.zero_add, hnew.cell, ← hu]
    simp [vs]
  have hone : ∀ u ∈ vs [a], u.oneCell' = true := by simp [vs, Value.oneCell']
  have hl16 : (n + 1) * 16 ≤ 140737488355328 := by omega
  have hlm : n + 1 ≤ maxLen := by unfold maxLen; omega
  have hlo : (vs l).length = n * 1 := by rw [vs_len, hl, Nat.mul_one]
  go_wp2_with (first | (at_builtin; rw [← hX]; refine wpList_append_grows X rfl _ _ 22 rfl 9 i (.string ⟨#[]⟩) 1 16 Tryd.underlying22 hi hz0 hz1 hz2 rfl (by decide) A n n (vs l) rfl hnone hlo holds ⟨w.heap.size + 1 + 1, 0, none⟩ 1 1 (vs [a]) rfl rfl hnews hone (Nat.lt_succ_self _) hlm hl16 ?_; intro v1 w1 hown1 hg1; obtain ⟨g1, c1, rfl⟩ := ownsRow_succ hown1; have hb1 := (Below.refl X.heap.size X).grown hg1 (Nat.le_refl _) (fun k hk => by cases hk); have hres1 := hres.belowS hb1; have q0 : w1.cell? ⟨w.heap.size + 1, 0, none⟩ = some (.slice none 0 0) := hres1.cell 0; have f0 := hres1.frozen 0))
  have hfin : Bx (w1.setCell ⟨w.heap.size + 1, 0, none⟩ (.slice (some ⟨g1, 0, none⟩) (n + 1) c1)) (w.heap.size + 1) 34 #[.slice (some ⟨g1, 0, none⟩) (n + 1) c1] := hres1.set 0 _
  have hg1lt := hown1.lt g1 rfl
  have hcc : n + 1 ≤ c1 := by
    obtain ⟨A', c', e, h1, h2⟩ := own_slice_cap hown1
    injection e with _ _ e3
    omega
  have hszX : w.heap.size + 1 < X.heap.size := hres.lt
  have hrow := Rs.of_own (hown1.kept (grownBy_setCell' w1 (w.heap.size + 1) (.slice (some ⟨g1, 0, none⟩) (n + 1) c1)) (.inr (by simp [Value.ownBlock]; omega)))
  refine bodyPost_ret (v := .agg #[.slice (some ⟨g1, 0, none⟩) (n + 1) c1]) (results_cell_row rfl _ _ (w.heap.size + 1) 34 _ (0, 0) _ rfl hfin Tryd.underlying34 rfl (by kernel_rfl)) rfl ⟨_, rfl, _, _, _, rfl, hcc, (fun h => nomatch h), ?_, ?_, ?_⟩
  · rw [vs_app]; exact hrow
  · intro a ha; cases ha; show w.heap.size ≤ g1; omega
  · exact (hB0.trans (hb1.mono hB0.size)).setCell (by simp) _
set_option maxRecDepth 100000 in
set_option maxHeartbeats 1000000 in
theorem get_any (A : Option Addr) (n c : Nat) (l : List ByteArray) (d0 d1 d2 d3 : Nat) (w : World) (hT : Turns w) (hr : Rs w A n 1 (vs l)) (hn : n ≤ 1000000) (hs : ∀ s ∈ l, s.size ≤ 1000000) :
    Calls Tryd.prog 30 #[.agg #[.slice A n c], .agg #[.int .u32 d0, .int .u32 d1, .int .u32 d2, .int .u32 d3]] w fun e w' => e = .returned (.tuple #[.string (getP l [d0, d1, d2, d3]).1, .int .i64 (getP l [d0, d1, d2, d3]).2]) ∧ Below w.heap.size w w' := by
  have hl := hr.slen
  go_enter Tryd.func30, Tryd.ntmps30
  have hB0 : Below w.heap.size w ((w.alloc (.cells #[.slice A n c] 34)).alloc (.cells #[.int .u32 d0, .int .u32 d1, .int .u32 d2, .int .u32 d3] 39)) := ((Below.refl _ _).alloc (Nat.le_refl _) _).alloc (by simp) _
  have hst0 : Bx ((w.alloc (.cells #[.slice A n c] 34)).alloc (.cells #[.int .u32 d0, .int .u32 d1, .int .u32 d2, .int .u32 d3] 39)) w.heap.size 34 #[.slice A n c] := (Bx.new w 34 _).alloc _
  go_wp2_with fail
  refine (find_any A n c l d0 d1 d2 d3 _ (hT.belowS hB0) (hr.below hB0) hn hs).mono ?_
  rintro e w1 ⟨rfl, hb1⟩
  have hB1 := hB0.trans (hb1.mono hB0.size)
  have hst1 := hst0.belowS hb1
  have s0 : w1.cell? ⟨w.heap.size, 0, none⟩ = some (.slice A n c) := hst1.cell 0
  cases hf : findP l [d0, d1, d2, d3] with
  | none =>
    have HG : Hid (getP l [d0, d1, d2, d3] = (ByteArray.empty, 6)) := by show getP _ _ = _; rw [getP, hf]
    simp only [findI]
    clear hf hst0 hB0
    go_wp2_with fail
    go_ret2
    exact ⟨by rw [HG.out]; rfl, hB1⟩
  | some i =>
    have HG : Hid (getP l [d0, d1, d2, d3] = (gs l i, 0)) := by show getP _ _ = _; rw [getP, hf]
    have hi := (findP_some hf).1
    simp only [findI]
    obtain ⟨g, o, rfl, hc⟩ := (hr.below hB1).str (k := i) (by omega)
    obtain ⟨R, hR⟩ : ∃ R, R = gs l i := ⟨_, rfl⟩
    rw [← hR] at hc HG
    have hin : (i : Int) < (n : Int) := by omega
    clear hf hst0 hB0 hR
    go_wp2_with fail
    go_ret2
    exact ⟨by rw [HG.out]; rfl, hB1⟩
set_option maxRecDepth 100000 in
set_option maxHeartbeats 1000000 in
theorem rget_any (A : Option Addr) (n c : Nat) (l : List ByteArray) (d0 d1 d2 d3 : Nat) (w : World) (hr : Rs w A n 1 (vs l)) (hn : n ≤ 1000000) (hs : ∀ s ∈ l, s.size ≤ 1000000) :
    Calls Tryd.prog 43 #[.agg #[.slice A n c], .agg #[.int .u32 d0, .int .u32 d1, .int .u32 d2, .int .u32 d3]] w fun e w' => e = .returned (.tuple #[.string (getP l [d0, d1, d2, d3]).1, .int .i64 (getP l [d0, d1, d2, d3]).2]) ∧ Below w.heap.size w w' := by
  have hl := hr.slen
  go_enter Tryd.func43, Tryd.ntmps43
  have hB0 : Below w.heap.size w ((w.alloc (.cells #[.slice A n c] 34)).alloc (.cells #[.int .u32 d0, .int .u32 d1, .int .u32 d2, .int .u32 d3] 39)) := ((Below.refl _ _).alloc (Nat.le_refl _) _).alloc (by simp) _
  have hst0 : Bx ((w.alloc (.cells #[.slice A n c] 34)).alloc (.cells #[.int .u32 d0, .int .u32 d1, .int .u32 d2, .int .u32 d3] 39)) w.heap.size 34 #[.slice A n c] := (Bx.new w 34 _).alloc _
  go_wp2_with fail
  refine (rfind_any A n c l d0 d1 d2 d3 _ (hr.below hB0) hn hs).mono ?_
  rintro e w1 ⟨rfl, hb1⟩
  have hB1 := hB0.trans (hb1.mono hB0.size)
  have hst1 := hst0.belowS hb1
  have s0 : w1.cell? ⟨w.heap.size, 0, none⟩ = some (.slice A n c) := hst1.cell 0
  cases hf : findP l [d0, d1, d2, d3] with
  | none =>
    have HG : Hid (getP l [d0, d1, d2, d3] = (ByteArray.empty, 6)) := by show getP _ _ = _; rw [getP, hf]
    simp only [findI]
    clear hf hst0 hB0
    go_wp2_with fail
    go_ret2
    exact ⟨by rw [HG.out]; rfl, hB1⟩
  | some i =>
    have HG : Hid (getP l [d0, d1, d2, d3] = (gs l i, 0)) := by show getP _ _ = _; rw [getP, hf]
    have hi := (findP_some hf).1
    simp only [findI]
    obtain ⟨g, o, rfl, hc⟩ := (hr.below hB1).str (k := i) (by omega)
    obtain ⟨R, hR⟩ : ∃ R, R = gs l i := ⟨_, rfl⟩
    rw [← hR] at hc HG
    have hin : (i : Int) < (n : Int) := by omega
    clear hf hst0 hB0 hR
    go_wp2_with fail
    go_ret2
    exact ⟨by rw [HG.out]; rfl, hB1⟩
end Go.Proofs.YtgpohndnkecbeaaDoor
