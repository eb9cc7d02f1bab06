/- The law StoreOpens, walked. -/
import Derived.Test.YtgpohndnkecbeaaDoorTd
namespace Go.Proofs.YtgpohndnkecbeaaDoor
open Go Go.RowKit Go.Proofs.Sc
theorem few_total {l : List ByteArray} {b : Nat} (h : ∀ s ∈ l, s.size ≤ b) : total (l.map fun r => r.data.toList) ≤ l.length * (20 + b) := by
  induction l with
  | nil => simp [total]
  | cons x l ih =>
    rw [List.map_cons, total_cons, List.length_cons, Nat.add_mul]
    have h1 := ih (fun s hs => h s (by simp [hs]))
    have h2 := h x (by simp)
    rw [size_list]
    omega
set_option maxRecDepth 100000 in
set_option maxHeartbeats 1000000 in
theorem opens_any (b : ByteArray) (A : Option Addr) (n c : Nat) (l : List ByteArray) (w : World) (hT : Turns w) (_hnc : n ≤ c) (_hA : A = none → c = 0) (hn : n ≤ 140737488355328) (hr : Rs w A n 1 (vs l)) :
    Calls Tryd.prog 18 #[.string b, .agg #[.slice A n c]] w fun e w' => e = .returned (.bool true) ∧ Below w.heap.size w w' := by
  have hl := hr.slen
  go_enter Tryd.func18, Tryd.ntmps18
  have hs0 : Bx (w.alloc (.cells #[.slice A n c] 34)) w.heap.size 34 #[.slice A n c] := Bx.new _ _ _
  have hB0 : Below w.heap.size w (w.alloc (.cells #[.slice A n c] 34)) := (Below.refl _ _).alloc (Nat.le_refl _) _
  by_cases hbig : (600 : Int) < (b.size : Int)
  · have hT0 := hT.belowS hB0
    go_wp2_with fail
    refine (awake42_any _ ?_).mono ?_
    · exact hT0
    rintro e w1 ⟨rfl, hb1⟩
    have hB1 := hB0.trans (hb1.mono hB0.size)
    go_wp2_with fail
    go_ret
    exact ⟨rfl, hB1⟩
  · have hbs : (b.size : Int) ≤ 600 := by omega
    go_wp2_with fail
    refine (small_any A n c l _ (hr.below hB0) hn).mono ?_
    rintro e w1 ⟨⟨q, rfl, hb⟩, hb1⟩
    have hB1 := hB0.trans (hb1.mono hB0.size)
    have hs1 := hs0.belowS hb1
    have hT1 := hT.belowS hB1
    have s1 : w1.cell? ⟨w.heap.size, 0, none⟩ = some (.slice A n c) := hs1.cell 0
    clear hs0 hb1
    cases q with
    | false =>
      clear hb
      go_wp2_with fail
      refine (awake42_any w1 hT1).mono ?_
      rintro e w2 ⟨rfl, hb2⟩
      have hB2 := hB1.trans (hb2.mono hB1.size)
      go_wp2_with fail
      go_ret
      exact ⟨rfl, hB2⟩
    | true =>
      obtain ⟨hf, -⟩ := hb.1 rfl
      have hn20 : n ≤ 1000 := by have := hf.1; omega
      have htot : total (l.map fun r => r.data.toList) ≤ 800000 := by
        have h1 := few_total hf.2
        have h2 : l.length * 80 ≤ 80000 := by omega
        omega
      have HTOT := Lib.hid htot
      clear hb hf htot
      go_wp2_with fail
      refine (open_any b w1 hT1 (by omega)).mono ?_
      rintro e w2 ⟨rs, A2, n2, c2, hrs, rfl, hnc2, hA2, hx2, hb2⟩
      obtain ⟨t, ht⟩ : ∃ t, t = b.size - total (lsts rs) := ⟨_, rfl⟩
      have hn2 : n2 ≤ 1000 := by
        have h1 := hx2.slen
        have h2 := join_len [] rs
        have h3 := (reads_facts hrs).1
        change (openP rs).length = n2 at h1
        change (openP rs).length ≤ _ at h2
        simp at h2
        omega
      rw [← ht]
      have HT := Lib.hid ht
      have HR := Lib.hid hrs
      have hB2 := hB1.trans (hb2.mono hB1.size)
      have hs2 := hs1.belowS hb2
      have z2 := hs2.lt
      have s2 : (w2.alloc (.cells #[.slice A2 n2 c2] 34)).cell? ⟨w.heap.size, 0, none⟩ = some (.slice A n c) := (hs2.alloc _).cell 0
      have x2 : Bx (w2.alloc (.cells #[.slice A2 n2 c2] 34)) w2.heap.size 34 #[.slice A2 n2 c2] := Bx.new _ _ _
      have hB2' := hB2.alloc hB2.size (.cells #[.slice A2 n2 c2] 34)
      have hs2' := hs2.alloc (.cells #[.slice A2 n2 c2] 34)
      have hx2' := hx2.alloc (.cells #[.slice A2 n2 c2] 34)
      clear ht hrs s1 hs1 hT1 hb2 hx2 s2
      go_wp2_with fail
      generalize (w2.alloc (.cells #[.slice A2 n2 c2] 34)) = W at x2 hB2' hs2' hx2' ⊢
      obtain ⟨xb, hxb⟩ : ∃ xb, xb = w2.heap.size := ⟨_, rfl⟩
      rw [← hxb] at x2 ⊢
      clear hxb z2 hs2 hB2
      refine (ropen_any b W (by omega)).mono ?_
      rintro e w3 ⟨rs3, A3, n3, c3, hrs3, rfl, hnc3, hA3, hy3, hb3⟩
      obtain rfl : rs3 = rs := lsts_inj (by show lsts rs3 = lsts rs; rw [hrs3, HR.out])
      rw [← HT.out]
      have hB3 := hB2'.trans (hb3.mono hB2'.size)
      have hs3 := hs2'.belowS hb3
      have x3 := x2.belowS hb3
      have hx3 := hx2'.below hb3
      have y3' : Bx (w3.alloc (.cells #[.slice A3 n3 c3] 34)) w3.heap.size 34 #[.slice A3 n3 c3] := Bx.new _ _ _
      have hB3' := hB3.alloc hB3.size (.cells #[.slice A3 n3 c3] 34)
      have hs3' := hs3.alloc (.cells #[.slice A3 n3 c3] 34)
      have x3' := x3.alloc (.cells #[.slice A3 n3 c3] 34)
      have hx3' := hx3.alloc (.cells #[.slice A3 n3 c3] 34)
      have hy3' := hy3.alloc (.cells #[.slice A3 n3 c3] 34)
      have z3 := hs3.lt
      have zx3 := x3.lt
      have s3 : w3.cell? ⟨w.heap.size, 0, none⟩ = some (.slice A n c) := hs3.cell 0
      clear hrs3 hb3 hB2' hs2' hx2' x2
      go_wp2_with fail
      generalize (w3.alloc (.cells #[.slice A3 n3 c3] 34)) = V at y3' hB3' hs3' x3' hx3' hy3' ⊢
      obtain ⟨yb, hyb⟩ : ∃ yb, yb = w3.heap.size := ⟨_, rfl⟩
      rw [← hyb] at y3' ⊢
      clear hyb z3 zx3 s3 hx3 hy3 x3 hs3 hB3
      have hTV := hT.belowS hB3'
      refine (save_any A n c l V hTV hn20 (hr.below hB3') HTOT.out).mono ?_
      obtain ⟨p, hp⟩ : ∃ p : ByteArray, p = ⟨(putB (l.map fun r => r.data.toList)).toArray⟩ := ⟨_, rfl⟩
      rw [← hp]
      have HP := Lib.hid hp
      rintro e w4 ⟨rfl, hb4⟩
      have hB4 := hB3'.trans (hb4.mono hB3'.size)
      have hs4 := hs3'.belowS hb4
      have x4 := x3'.belowS hb4
      have y4 := y3'.belowS hb4
      have hx4 := hx3'.below hb4
      have hy4 := hy3'.below hb4
      have s4 : w4.cell? ⟨w.heap.size, 0, none⟩ = some (.slice A n c) := hs4.cell 0
      clear hp hTV hb4 y3' hB3' hs3' x3' hx3' hy3'
      go_wp2_with fail
      refine (rsave_any A n c l w4 hn20 (hr.below hB4) HTOT.out).mono ?_
      rw [← HP.out]
      rintro e w5 ⟨rfl, hb5⟩
      have hB5 := hB4.trans (hb5.mono hB4.size)
      have x5 := x4.belowS hb5
      have y5 := y4.belowS hb5
      have hx5 := hx4.below hb5
      have hy5 := hy4.below hb5
      have hT5 := hT.belowS hB5
      clear hb5 hB4 hs4 x4 y4 hx4 hy4 s4
      go_wp2_with fail
      refine (awake42_any w5 hT5).mono ?_
      rintro e w6 ⟨rfl, hb6⟩
      have hB6 := hB5.trans (hb6.mono hB5.size)
      have x6 := x5.belowS hb6
      have y6 := y5.belowS hb6
      have hx6 := hx5.below hb6
      have hy6 := hy5.below hb6
      have x6c : w6.cell? ⟨xb, 0, none⟩ = some (.slice A2 n2 c2) := x6.cell 0
      have y6c : w6.cell? ⟨yb, 0, none⟩ = some (.slice A3 n3 c3) := y6.cell 0
      clear hb6 x5 y5 hx5 hy5 hT5 hB5
      go_wp2_with fail
      refine (rsame_any A2 A3 n2 c2 n3 c3 _ _ w6 hx6 hy6 (by omega)).mono ?_
      rintro e w7 ⟨rfl, hb7⟩
      rw [decide_eq_true rfl]
      have hB7 := hB6.trans (hb7.mono hB6.size)
      clear hb7 x6 y6 hx6 hy6 x6c y6c hB6
      go_wp2_with fail
      go_ret
      refine ⟨?_, hB7⟩
      first | rfl | simp
end Go.Proofs.YtgpohndnkecbeaaDoor
