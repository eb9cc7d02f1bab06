/- The laws StoreAdds, StoreProves, walked. -/
import Derived.Test.YtgpohndnkecbeaaDoorTc
namespace Go.Proofs.YtgpohndnkecbeaaDoor
open Go Go.RowKit Go.Proofs.Sc
theorem addP_len (l : List ByteArray) (a : ByteArray) : (addP l a).1.length ≤ l.length + 1 := by
  unfold addP
  repeat' split
  all_goals simp
set_option maxRecDepth 100000 in
set_option maxHeartbeats 1000000 in
theorem adds_any (A : Option Addr) (n c : Nat) (l : List ByteArray) (a : ByteArray) (d0 d1 d2 d3 : Nat) (w : World) (hT : Turns w) (hnc : n ≤ c) (hA : A = none → c = 0) (hn : n ≤ 140737488355328) (hr : Rs w A n 1 (vs l)) :
    Calls Tryd.prog 12 #[.agg #[.slice A n c], .string a, .agg #[.int .u32 d0, .int .u32 d1, .int .u32 d2, .int .u32 d3]] w fun e w' => e = .returned (.bool true) ∧ Below w.heap.size w w' := by
  have hl := hr.slen
  go_enter Tryd.func12, Tryd.ntmps12
  go_wp2_with fail
  obtain ⟨hs0, hd0, hB0⟩ := two_alloc w #[.slice A n c] (wds [d0, d1, d2, d3]) 34 39
  refine (small_any A n c l _ (hr.below hB0) hn).mono ?_
  rintro e w1 ⟨⟨b, rfl, hb⟩, hb1⟩
  have hB1 := hB0.trans (hb1.mono hB0.size)
  have hs1 := hs0.belowS hb1
  have hd1 := hd0.belowS hb1
  have hT1 := hT.belowS hB1
  have hr1 := hr.below hB1
  have s1 : w1.cell? ⟨w.heap.size, 0, none⟩ = some (.slice A n c) := hs1.cell 0
  clear hs0 hd0 hb1
  by_cases hok : b = true ∧ a.size ≤ 60
  · obtain ⟨rfl, ha⟩ := hok
    obtain ⟨hf, hri⟩ := hb.1 rfl
    have hn20 : n ≤ 100000 := by have := hf.1; omega
    have hn6 : n ≤ 1000000 := by omega
    have hsz : ∀ s ∈ l, s.size ≤ 1000000 := fun s h => by have := hf.2 s h; omega
    have hab : (a.size : Int) ≤ 60 := by omega
    clear hb hf hri
    go_wp2_with fail
    refine (add_any A n c l a w1 hT1 hr1 hn20 hnc hA hsz (by omega)).mono ?_
    rintro e w2 ⟨A2, n2, c2, rfl, hnc2, hA2, hr2, hb2⟩
    have hB2 := hB1.trans (hb2.mono hB1.size)
    have hs2 := hs1.belowS hb2
    have hd2 := hd1.belowS hb2
    have s2 : w2.cell? ⟨w.heap.size, 0, none⟩ = some (.slice A n c) := hs2.cell 0
    have hrs2 := hr1.below hb2
    have hn2 : n2 ≤ n + 1 := by
      have h1 := hr2.slen
      have h2 := addP_len l a
      omega
    obtain ⟨p, hp⟩ : ∃ p, p = addP l a := ⟨_, rfl⟩
    rw [← hp] at hr2 ⊢
    have HP := Lib.hid hp
    have z2 := hs2.lt
    clear hp s1 hs1 hd1 hr1 hT1 hb2
    have hB2' := hB2.alloc hB2.size (.cells #[.slice A2 n2 c2] 34)
    have x2 : Bx (w2.alloc (.cells #[.slice A2 n2 c2] 34)) w2.heap.size 34 #[.slice A2 n2 c2] := Bx.new _ _ _
    have hs2' := hs2.alloc (.cells #[.slice A2 n2 c2] 34)
    have hd2' := hd2.alloc (.cells #[.slice A2 n2 c2] 34)
    have hrs2' := hrs2.alloc (.cells #[.slice A2 n2 c2] 34)
    have hr2' := hr2.alloc (.cells #[.slice A2 n2 c2] 34)
    go_wp2_with fail
    generalize (w2.alloc (.cells #[.slice A2 n2 c2] 34)) = W at x2 hB2' hs2' hd2' hrs2' hr2' ⊢
    obtain ⟨xb, hxb⟩ : ∃ xb, xb = w2.heap.size := ⟨_, rfl⟩
    rw [← hxb] at x2 ⊢
    clear hxb z2 hr2 hrs2 s2 hs2 hd2 hB2
    refine (radd_any A n c l a W hrs2' hn20 hnc hA hsz (by omega)).mono ?_
    rintro e w3 ⟨A3, n3, c3, rfl, hnc3, hA3, hr3, hb3⟩
    rw [← HP.out] at hr3 ⊢
    have hB3 := hB2'.trans (hb3.mono hB2'.size)
    have hs3 := hs2'.belowS hb3
    have hd3 := hd2'.belowS hb3
    have x3 := x2.belowS hb3
    have s3 : w3.cell? ⟨w.heap.size, 0, none⟩ = some (.slice A n c) := hs3.cell 0
    have x3c : w3.cell? ⟨xb, 0, none⟩ = some (.slice A2 n2 c2) := x3.cell 0
    obtain ⟨k0, k1, k2, k3⟩ := hd3.w4c
    have hx3 := hr2'.below hb3
    have hrs3 := hrs2'.below hb3
    have z3 := hs3.lt
    have z3' := hd3.lt
    have z3x := x3.lt
    have hB3' := hB3.alloc hB3.size (.cells #[.slice A3 n3 c3] 34)
    have y3' : Bx (w3.alloc (.cells #[.slice A3 n3 c3] 34)) w3.heap.size 34 #[.slice A3 n3 c3] := Bx.new _ _ _
    have hs3' := hs3.alloc (.cells #[.slice A3 n3 c3] 34)
    have hd3' := hd3.alloc (.cells #[.slice A3 n3 c3] 34)
    have x3' := x3.alloc (.cells #[.slice A3 n3 c3] 34)
    have hrs3' := hrs3.alloc (.cells #[.slice A3 n3 c3] 34)
    have hx3' := hx3.alloc (.cells #[.slice A3 n3 c3] 34)
    have hy3' := hr3.alloc (.cells #[.slice A3 n3 c3] 34)
    clear hb3 hr2' hrs2' hs2' hd2' x2 hB2'
    go_wp2_with fail
    generalize (w3.alloc (.cells #[.slice A3 n3 c3] 34)) = V at y3' hB3' hs3' hd3' x3' hrs3' hx3' hy3' ⊢
    obtain ⟨yb, hyb⟩ : ∃ yb, yb = w3.heap.size := ⟨_, rfl⟩
    rw [← hyb] at y3' ⊢
    clear hyb z3 z3' z3x k0 k1 k2 k3 hx3 hrs3 x3 x3c s3 hd3 hs3 hr3 hB3
    have hTV := hT.belowS hB3'
    refine (get_any A n c l d0 d1 d2 d3 V hTV hrs3' hn6 hsz).mono ?_
    rintro e w4 ⟨rfl, hb4⟩
    obtain ⟨g, hg⟩ : ∃ g, g = getP l [d0, d1, d2, d3] := ⟨_, rfl⟩
    rw [← hg]
    have HG := Lib.hid hg
    clear hg hTV
    have hB4 := hB3'.trans (hb4.mono hB3'.size)
    have hs4 := hs3'.belowS hb4
    have hd4 := hd3'.belowS hb4
    have x4 := x3'.belowS hb4
    have y4 := y3'.belowS hb4
    have s4 : w4.cell? ⟨w.heap.size, 0, none⟩ = some (.slice A n c) := hs4.cell 0
    obtain ⟨k0, k1, k2, k3⟩ := hd4.w4c
    have hx4 := hx3'.below hb4
    have hy4 := hy3'.below hb4
    have hrs4 := hrs3'.below hb4
    clear hb4 hs3' hd3' x3' y3' hx3' hy3' hrs3' hB3'
    go_wp2_with fail
    refine (rget_any A n c l d0 d1 d2 d3 w4 hrs4 hn6 hsz).mono ?_
    rintro e w5 ⟨rfl, hb5⟩
    rw [← HG.out]
    have hB5 := hB4.trans (hb5.mono hB4.size)
    have x5 := x4.belowS hb5
    have y5 := y4.belowS hb5
    have hx5 := hx4.below hb5
    have hy5 := hy4.below hb5
    have hT5 := hT.belowS hB5
    clear hb5 hs4 hd4 x4 y4 s4 k0 k1 k2 k3 hx4 hy4 hrs4 hB4
    go_wp2_with fail
    refine (awake42_any w5 hT5).mono ?_
    rintro e w6 ⟨rfl, hb6⟩
    have hB6 := hB5.trans (hb6.mono hB5.size)
    have x6 := x5.belowS hb6
    have y6 := y5.belowS hb6
    have hx6 := hx5.below hb6
    have hy6 := hy5.below hb6
    have x6c : w6.cell? ⟨xb, 0, none⟩ = some (.slice A2 n2 c2) := x6.cell 0
    have y6c : w6.cell? ⟨yb, 0, none⟩ = some (.slice A3 n3 c3) := y6.cell 0
    clear hb6 x5 y5 hx5 hy5 hT5 hB5
    go_wp2_with fail
    refine (rsame_any A2 A3 n2 c2 n3 c3 _ _ w6 hx6 hy6 (by omega)).mono ?_
    rintro e w7 ⟨rfl, hb7⟩
    rw [decide_eq_true rfl]
    have hB7 := hB6.trans (hb7.mono hB6.size)
    clear hb7 x6 y6 hx6 hy6 x6c y6c hB6
    go_wp2_with fail
    go_ret
    refine ⟨?_, hB7⟩
    first | rfl | simp
  · cases b with
    | false =>
      go_wp2_with fail
      refine (awake42_any w1 hT1).mono ?_
      rintro e w2 ⟨rfl, hb2⟩
      have hB2 := hB1.trans (hb2.mono hB1.size)
      go_wp2_with fail
      go_ret
      exact ⟨rfl, hB2⟩
    | true =>
      have hab : ¬ (a.size : Int) ≤ 60 := fun h => hok ⟨rfl, by omega⟩
      clear hok hb
      go_wp2_with fail
      all_goals
        refine (awake42_any w1 hT1).mono ?_
        rintro e w2 ⟨rfl, hb2⟩
        have hB2 := hB1.trans (hb2.mono hB1.size)
        go_wp2_with fail
        go_ret
        exact ⟨rfl, hB2⟩
end Go.Proofs.YtgpohndnkecbeaaDoor
