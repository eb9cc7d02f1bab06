/- The law StoreSaves, walked. -/
import Derived.Test.YtgpohndnkecbeaaDoorLc
import Derived.Test.YtgpohndnkecbeaaDoorPi
import Derived.Test.YtgpohndnkecbeaaDoorKb
namespace Go.Proofs.YtgpohndnkecbeaaDoor
open Go Go.RowKit Go.Proofs.Sc
set_option maxRecDepth 100000 in
set_option maxHeartbeats 1000000 in
theorem saves_any (A : Option Addr) (n c : Nat) (l : List ByteArray) (cut : Int) (w : World) (hT : Turns w) (_hnc : n ≤ c) (_hA : A = none → c = 0) (hn : n ≤ 140737488355328) (hr : Rs w A n 1 (vs l)) (h0 : 0 ≤ cut) (h1 : cut < 65536) :
    Calls Tryd.prog 17 #[.agg #[.slice A n c], .int .u16 cut] w fun e w' => e = .returned (.bool true) ∧ Below w.heap.size w w' := by
  have hl := hr.slen
  go_enter Tryd.func17, Tryd.ntmps17
  have hs0 : Bx (w.alloc (.cells #[.slice A n c] 34)) w.heap.size 34 #[.slice A n c] := Bx.new _ _ _
  have hB0 : Below w.heap.size w (w.alloc (.cells #[.slice A n c] 34)) := (Below.refl _ _).alloc (Nat.le_refl _) _
  go_wp2_with fail
  refine (small_any A n c l _ (hr.below hB0) hn).mono ?_
  rintro e w1 ⟨⟨q, rfl, hb⟩, hb1⟩
  have hB1 := hB0.trans (hb1.mono hB0.size)
  have hs1 := hs0.belowS hb1
  have hT1 := hT.belowS hB1
  have s1 : w1.cell? ⟨w.heap.size, 0, none⟩ = some (.slice A n c) := hs1.cell 0
  clear hs0 hb1
  cases q with
  | false =>
    clear hb
    go_wp2_with fail
    refine (awake42_any w1 hT1).mono ?_
    rintro e w2 ⟨rfl, hb2⟩
    have hB2 := hB1.trans (hb2.mono hB1.size)
    go_wp2_with fail
    go_ret
    exact ⟨rfl, hB2⟩
  | true =>
    obtain ⟨hf, hri⟩ := hb.1 rfl
    have hn20 : n ≤ 20 := by have := hf.1; omega
    have htot : total (l.map fun r => r.data.toList) ≤ 1600 := by
      have h1 := few_total hf.2
      omega
    clear hb
    go_wp2_with fail
    refine (save_any A n c l w1 hT1 (by omega) (hr.below hB1) (by omega)).mono ?_
    obtain ⟨p, hp⟩ : ∃ p : ByteArray, p = ⟨(putB (l.map fun r => r.data.toList)).toArray⟩ := ⟨_, rfl⟩
    have hpl : p.data.toList = putB (lsts l) := by rw [hp]; simp [lsts]
    have hps : p.size = total (lsts l) := by
      have := putB_len (lsts l)
      rw [← hpl, size_list] at this
      exact this
    have hp16 : p.size ≤ 1600 := by rw [hps]; exact htot
    rw [← hp]
    rintro e w2 ⟨rfl, hb2⟩
    have hB2 := hB1.trans (hb2.mono hB1.size)
    have hs2 := hs1.belowS hb2
    have hT2 := hT.belowS hB2
    have HPL := Lib.hid hpl
    have HPS := Lib.hid hps
    clear hp hpl hps s1 hs1 hT1 hb2 htot
    go_wp2_with fail
    refine (open_any p w2 hT2 (by omega)).mono ?_
    rintro e w3 ⟨rs, A3, n3, c3, hrs, rfl, hnc3, hA3, hx3, hb3⟩
    rw [HPL.out] at hrs
    obtain ⟨rfl, hop, htt⟩ := open_saved hf hri hrs
    rw [hop] at hx3
    have hz : p.size - total (lsts rs) = 0 := by rw [HPS.out]; omega
    rw [hz]
    have hB3 := hB2.trans (hb3.mono hB2.size)
    have hs3 := hs2.belowS hb3
    have z3 := hs3.lt
    have x3' : Bx (w3.alloc (.cells #[.slice A3 n3 c3] 34)) w3.heap.size 34 #[.slice A3 n3 c3] := Bx.new _ _ _
    have hB3' := hB3.alloc hB3.size (.cells #[.slice A3 n3 c3] 34)
    have hs3' := hs3.alloc (.cells #[.slice A3 n3 c3] 34)
    have hx3' := hx3.alloc (.cells #[.slice A3 n3 c3] 34)
    have s3 : w3.cell? ⟨w.heap.size, 0, none⟩ = some (.slice A n c) := hs3.cell 0
    clear hrs hop htt hz hb3 hs2 hT2 hB2
    go_wp2_with fail
    generalize (w3.alloc (.cells #[.slice A3 n3 c3] 34)) = W at x3' hB3' hs3' hx3' ⊢
    obtain ⟨xb, hxb⟩ : ∃ xb, xb = w3.heap.size := ⟨_, rfl⟩
    rw [← hxb] at x3' ⊢
    clear hxb z3 s3 hx3 hs3 hB3
    refine (rsame_any A3 A n3 c3 n c rs rs W hx3' (hr.below hB3') (by have := hx3'.slen; omega)).mono ?_
    rintro e w4 ⟨rfl, hb4⟩
    rw [decide_eq_true rfl]
    have hB4 := hB3'.trans (hb4.mono hB3'.size)
    have hs4 := hs3'.belowS hb4
    have hT4 := hT.belowS hB4
    have s4 : w4.cell? ⟨w.heap.size, 0, none⟩ = some (.slice A n c) := hs4.cell 0
    clear hb4 x3' hx3' hs3' hB3'
    obtain ⟨k, hk⟩ : ∃ k : Nat, cut % ((p.size : Int) + 1) = (k : Int) := ⟨(cut % ((p.size : Int) + 1)).toNat, by have := Int.emod_nonneg cut (show ((p.size : Int) + 1) ≠ 0 by omega); omega⟩
    have hkp : (k : Int) ≤ (p.size : Int) := by have := Int.emod_lt_of_pos cut (show 0 < (p.size : Int) + 1 by omega); omega
    go_wp2_with fail
    rw [hk]
    clear hk
    have hks : (p.extract 0 k).size = k := by rw [ByteArray.size_extract]; omega
    refine (open_any (p.extract 0 k) w4 hT4 (by omega)).mono ?_
    rintro e w5 ⟨rs5, A5, n5, c5, hrs5, rfl, hnc5, hA5, hy5, hb5⟩
    have hex : (p.extract 0 k).data.toList = (putB (lsts rs)).take k := by rw [extract_list, List.drop_zero, HPL.out]
    rw [hex] at hrs5
    obtain ⟨many, hm, hrr, hop5, htot5⟩ := open_begin hf hri hrs5 (by rw [putB_len, ← HPS.out]; omega)
    rw [hop5] at hy5
    obtain rfl : many = n5 := by
      have := hy5.slen
      rw [List.length_take] at this
      omega
    obtain ⟨t, ht⟩ : ∃ t, t = (p.extract 0 k).size - total (lsts rs5) := ⟨_, rfl⟩
    have htk : (t : Int) ≤ (k : Int) := by omega
    rw [← ht]
    have hB5 := hB4.trans (hb5.mono hB4.size)
    have hs5 := hs4.belowS hb5
    have z5 := hs5.lt
    have y5' : Bx (w5.alloc (.cells #[.slice A5 many c5] 34)) w5.heap.size 34 #[.slice A5 many c5] := Bx.new _ _ _
    have hB5' := hB5.alloc hB5.size (.cells #[.slice A5 many c5] 34)
    have hs5' := hs5.alloc (.cells #[.slice A5 many c5] 34)
    have hy5' := hy5.alloc (.cells #[.slice A5 many c5] 34)
    have s5 : w5.cell? ⟨w.heap.size, 0, none⟩ = some (.slice A n c) := hs5.cell 0
    have hmn : (many : Int) ≤ (n : Int) := by omega
    clear ht hex hrs5 hop5 htot5 hrr hb5 hs4 hT4 hB4 s4 hks
    have hsl := sl22_h A n c many (by omega)
    have hrt : Rs (w5.alloc (.cells #[.slice A5 many c5] 34)) A many 1 (vs (rs.take many)) := Rs.strTake (hr.below hB5') (by omega)
    go_wp2_with fail
    generalize (w5.alloc (.cells #[.slice A5 many c5] 34)) = V at y5' hB5' hs5' hy5' hrt ⊢
    obtain ⟨yb, hyb⟩ : ∃ yb, yb = w5.heap.size := ⟨_, rfl⟩
    rw [← hyb] at y5' ⊢
    clear hyb z5 s5 hs5 hB5 hy5
    have hTV := hT.belowS hB5'
    have sV : V.cell? ⟨w.heap.size, 0, none⟩ = some (.slice A n c) := hs5'.cell 0
    have yV : V.cell? ⟨yb, 0, none⟩ = some (.slice A5 many c5) := y5'.cell 0
    go_region_held3 (fun X : World => X.cell? ⟨w.heap.size, 0, none⟩ = some (.slice A n c) ∧ X.cell? ⟨yb, 0, none⟩ = some (.slice A5 many c5)) (go_keep) (first
      | (go_at_call 40; refine (awake42_any _ ?_).mono ?_; exact hTV; rintro e w6 ⟨rfl, hb6⟩; have hB6 := hB5'.drew.trans (hb6.mono hB5'.size); have hs6 := hs5'.drew.belowS hb6; have y6 := y5'.drew.belowS hb6; have s6 : w6.cell? ⟨w.heap.size, 0, none⟩ = some (.slice A n c) := hs6.cell 0; have y6c : w6.cell? ⟨yb, 0, none⟩ = some (.slice A5 many c5) := y6.cell 0; have hr6 := hrt.drew.below hb6; have hy6 := hy5'.drew.below hb6)
      | (go_at_call 44; refine (rsame_any A5 A many c5 many c (rs.take many) (rs.take many) w6 hy6 hr6 (by omega)).mono ?_; rintro e w7 ⟨rfl, hb7⟩; have hB7 := hB6.trans (hb7.mono hB6.size); have s7 : w7.cell? ⟨w.heap.size, 0, none⟩ = some (.slice A n c) := (hs6.belowS hb7).cell 0; have y7c : w7.cell? ⟨yb, 0, none⟩ = some (.slice A5 many c5) := (y6.belowS hb7).cell 0))
    all_goals
      go_wp2_with fail
      go_ret
      refine ⟨?_, hB7⟩
      first | rfl | simp
end Go.Proofs.YtgpohndnkecbeaaDoor
